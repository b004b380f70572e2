import Derived.Deep.AppendLies
import Derived.Laws.EntriesVeiled
import Derived.Test.YtcgnajeenflfaaaGreatDoorP10
set_option maxRecDepth 100000
set_option maxHeartbeats 4000000
set_option linter.all false
open Go.Proofs.Tryz Go.RowKit
namespace Go.Proofs.YtcgnajeenflfaaaGreatDoor
namespace V
theorem fT (V:Value) (w:World):(Instr.typeAssert (.iface 148 V) 34 130 true).run prog w=.ok (.tuple #[.nilIface,.bool false]) w:=run_typeAssert_lacksB underlying130 (by kernel_rfl) (by kernel_rfl) V _ w
theorem dX (V:Value) (w:World):(Instr.typeAssert (.iface 220 V) 34 130 true).run prog w=.ok (.tuple #[.iface 220 V,.bool true]) w:=run_typeAssert_hasB underlying130 (by kernel_rfl) V _ w
theorem cK (V:Value) (w:World):(Instr.typeAssert (.iface 222 V) 34 130 true).run prog w=.ok (.tuple #[.nilIface,.bool false]) w:=run_typeAssert_lacksB underlying130 (by kernel_rfl) (by kernel_rfl) V _ w
theorem bJ (V:Value) (w:World):(Instr.typeAssert (.iface 118 V) 34 130 true).run prog w=.ok (.tuple #[.nilIface,.bool false]) w:=run_typeAssert_lacksB underlying130 (by kernel_rfl) (by kernel_rfl) V _ w
theorem iK (V:Value) (w:World):(Instr.typeAssert (.iface 148 V) 34 135 true).run prog w=.ok (.tuple #[.nilIface,.bool false]) w:=run_typeAssert_lacksB underlying135 (by kernel_rfl) (by kernel_rfl) V _ w
theorem uQ (V:Value) (w:World):(Instr.typeAssert (.iface 220 V) 34 135 true).run prog w=.ok (.tuple #[.nilIface,.bool false]) w:=run_typeAssert_lacksB underlying135 (by kernel_rfl) (by kernel_rfl) V _ w
theorem fE (V:Value) (w:World):(Instr.typeAssert (.iface 222 V) 34 135 true).run prog w=.ok (.tuple #[.iface 222 V,.bool true]) w:=run_typeAssert_hasB underlying135 (by kernel_rfl) V _ w
theorem gN (V:Value) (w:World):(Instr.typeAssert (.iface 118 V) 34 135 true).run prog w=.ok (.tuple #[.nilIface,.bool false]) w:=run_typeAssert_lacksB underlying135 (by kernel_rfl) (by kernel_rfl) V _ w
theorem fU (V:Value) (w:World):(Instr.typeAssert (.iface 148 V) 34 84 true).run prog w=.ok (.tuple #[.nilIface,.bool false]) w:=run_typeAssert_lacksB underlying84 (by kernel_rfl) (by kernel_rfl) V _ w
theorem gY (V:Value) (w:World):(Instr.typeAssert (.iface 220 V) 34 84 true).run prog w=.ok (.tuple #[.nilIface,.bool false]) w:=run_typeAssert_lacksB underlying84 (by kernel_rfl) (by kernel_rfl) V _ w
theorem dV (V:Value) (w:World):(Instr.typeAssert (.iface 222 V) 34 84 true).run prog w=.ok (.tuple #[.nilIface,.bool false]) w:=run_typeAssert_lacksB underlying84 (by kernel_rfl) (by kernel_rfl) V _ w
theorem bS (V:Value) (w:World):(Instr.typeAssert (.iface 118 V) 34 84 true).run prog w=.ok (.tuple #[.iface 118 V,.bool true]) w:=run_typeAssert_hasB underlying84 (by kernel_rfl) V _ w
theorem aGp (w:World):(Instr.typeAssert .nilIface 34 84 true).run prog w=.ok (.tuple #[.nilIface,.bool false]) w:=by kernel_rfl
theorem vB (y:Bool) (w:World):Calls prog 282 #[.agg #[.bool y]] w fun e w'=>e=.returned (.int .u8 1)∧Below w.heap.size w w':=by
 go_enter func282,ntmps282;go_wp2_with fail;go_ret;exact⟨rfl,zr.alloc lr _⟩
theorem vC (b:Bool) (m:ByteArray) (w:World):Calls prog 300 #[.agg #[.bool b,.string m]] w fun e w'=>e=.returned (.int .u8 2)∧Below w.heap.size w w':=by
 go_enter func300,ntmps300;go_wp2_with fail;go_ret;exact⟨rfl,zr.alloc lr _⟩
theorem aBj (k:Nat) (r:ByteArray) (w:World):Calls prog 304 #[.agg #[.int .u8 k,.string r]] w fun e w'=>e=.returned (.int .u8 k)∧Below w.heap.size w w':=by
 go_enter func304,ntmps304;go_wp2_with fail;go_ret;exact⟨rfl,zr.alloc lr _⟩
theorem mO (a:Option Addr) (n cap:Nat) (w:World):Calls prog 278 #[.agg #[.slice a n cap]] w fun e w'=>e=.returned (.int .u8 7)∧Below w.heap.size w w':=by
 go_enter func278,ntmps278;go_wp2_with fail;go_ret;exact⟨rfl,zr.alloc lr _⟩
theorem fA (k:Nat) (r:ByteArray) (w:World):Calls prog 303 #[.agg #[.int .u8 k,.string r]] w fun e w'=>e=.returned (.string r)∧Below w.heap.size w w':=by
 go_enter func303,ntmps303;go_wp2_with fail;go_ret;exact⟨rfl,zr.alloc lr _⟩
theorem fV (a:Option Addr) (n cap:Nat) (w:World):Calls prog 279 #[.agg #[.slice a n cap]] w fun e w'=>e=.returned (.int .i64 n)∧Below w.heap.size w w':=by
 go_enter func279,ntmps279;go_wp2_with fail;go_ret;exact⟨rfl,zr.alloc lr _⟩
theorem jE (b:Bool) (m:ByteArray) (w:World):Calls prog 301 #[.agg #[.bool b,.string m]] w fun e w'=>e=.returned (.agg #[.bool b,.string m])∧Below w.heap.size w w':=by
 go_enter func301,ntmps301;go_wp2_with fail;exact bodyPost_ret (v:=.agg #[.bool b,.string m]) (by simp[results,Tryz.results301,go_sem]) rfl ⟨rfl,(zr.alloc lr _).alloc (by simp) _⟩
theorem oN (g n cap j:Nat) (u:Value) (w:World) (hn:n≤9223372036854775807) (hj:j<n) (hc:w.cell? ⟨g,j,none⟩=some u) :
 Calls prog 277 #[.agg #[.slice (some ⟨g,0,none⟩) n cap],.int .i64 j] w fun e w'=>e=.returned u∧Below w.heap.size w w':=by
 have hlt:g<w.heap.size:=World.block_lt_of_cell? w _ hc;have q1:decide ((n:Int)≤(j:Int))=false:=by simp;omega
 have q2:decide (n≤j)=false:=by simp;omega
 go_enter func277,ntmps277;go_wp2_with fail;go_ret;exact⟨rfl,zr.alloc lr _⟩
theorem VI.mP {w:World} {lo hi:Nat} {p:Pt} {v:Value} (h:VI w lo hi p v) (h0:p.kind=0):v=.nilIface:=by
 cases h with
 | null _ _=>rfl
 | truth _ h=>omega
 | whole _ h=>omega
 | row _ h _ _ _=>omega
 | tuple _ h _ _ _ _ _ _=>omega
theorem VI.kindOf {w:World} {lo hi:Nat} {p:Pt} {v:Value} (h:VI w lo hi p v) (h0:p.kind≠0) :
 ∃ (T:TypeId) (V:Value) (f:FuncId),v=.iface T V∧(∀ w:World,(method 512 T V "Kind").run prog w=.ok (f,V) w)∧(∀ (args:Array Value) (w:World),(callFunc f args).run prog w=.ok (.enter f args) w)∧∀ w:World,Calls prog f #[V] w fun e w'=>e=.returned (.int .u8 p.kind)∧Below w.heap.size w w':=by
 cases h with
 | null _ h=>exact absurd h h0
 | truth _ h=>exact⟨_,_,282,rfl,fun _=>by kernel_rfl,fun _ _=>by kernel_rfl,fun w=>by rw[h];exact vB _ w⟩
 | whole _ h=>exact⟨_,_,300,rfl,fun _=>by kernel_rfl,fun _ _=>by kernel_rfl,fun w=>by rw[h];exact vC _ _ w⟩
 | row _ _ _ _ _=>exact⟨_,_,304,rfl,fun _=>by kernel_rfl,fun _ _=>by kernel_rfl,fun w=>aBj _ _ w⟩
 | tuple _ h a cap _ _ _ _=>exact⟨_,_,278,rfl,fun _=>by kernel_rfl,fun _ _=>by kernel_rfl,fun w=>by rw[h];exact mO _ _ _ w⟩
end V
section
structure Xv (P:Nat→Prop) (w w':World):Prop where
 os:w'.os=w.os
 tape:w'.tape=w.tape
 output:w'.output=w.output
 size:w.heap.size≤w'.heap.size
 block:∀ k,k<w.heap.size→¬ P k→w'.heap[k]?=w.heap[k]?
section
variable {P Q:Nat→Prop} {w w' w'':World}
theorem Xv.refl (P:Nat→Prop) (w:World):Xv P w w:=⟨rfl,rfl,rfl,Nat.le_refl _,fun _ _ _=>rfl⟩
theorem Xv.drew (h:Xv P w w'):Xv P w w'.drew:=⟨h.os,h.tape,h.output,h.size,h.block⟩
theorem Xv.qA (h:Xv P w.drew w'):Xv P w w':=⟨h.os,h.tape,h.output,h.size,h.block⟩
theorem Xv.drewN (h:Xv P w w') (n:Nat):Xv P w (w'.drewN n):=⟨h.os,h.tape,h.output,h.size,h.block⟩
theorem Xv.trans (h:Xv P w w') (k:Xv Q w' w'') (hQ:∀ i,i<w.heap.size→Q i→P i):Xv P w w'' :=
 ⟨k.os.trans h.os,k.tape.trans h.tape,k.output.trans h.output,Nat.le_trans h.size k.size,fun i hi hp=>(k.block i (Nat.lt_of_lt_of_le hi h.size) (fun q=>hp (hQ i hi q))).trans (h.block i hi hp)⟩
theorem Xv.mono (h:Xv P w w') (hQ:∀ i,i<w.heap.size→P i→Q i):Xv Q w w':=⟨h.os,h.tape,h.output,h.size,fun i hi hp=>h.block i hi (fun q=>hp (hQ i hi q))⟩
theorem Xv.of_below (h:Below w.heap.size w w'):Xv P w w':=⟨h.os,h.tape,h.output,h.size,fun k hk _=>h.block k hk⟩
theorem Xv.alloc (h:Xv P w w') (o:Obj):Xv P w (w'.alloc o):=h.trans (Q:=fun _=>False) (Xv.of_below (zr.alloc lr o)) (fun _ _ e=>e.elim)
theorem Xv.then (h:Xv P w w') (k:Below w'.heap.size w' w''):Xv P w w'':=h.trans (Q:=fun _=>False) (Xv.of_below k) (fun _ _ e=>e.elim)
theorem Xv.aU (h:Xv P w w') {b:Nat} (hb:b<w.heap.size→P b) (i:Nat) (v:Value):Xv P w (w'.setCell ⟨b,i,none⟩ v) :=
 ⟨h.os,h.tape,h.output,by simpa[World.setCell] using h.size,fun k hk hp=>by
  have hne:k≠b:=fun e=>hp (by subst e;exact hb hk)
  rw[Below.heap_setCell _ _ _ _ hne];exact h.block k hk hp⟩
theorem Xv.below {B:Nat} (h:Xv P w w') (hP:∀ k,k<B→¬ P k) (hs:B≤w.heap.size):Below B w w':=⟨h.os,h.tape,h.output,h.size,fun k hk=>h.block k (by omega) (hP k hk)⟩
theorem Xv.blk {g:Nat} {t:TypeId} {cs:Array Value} (h:Xv P w w') (hg:¬ P g) (k:aC w g t cs):aC w' g t cs:=(h.block g k.lt hg).trans k
theorem Xv.same {lo hi:Nat} (h:Xv P w w') (hb:∀ k,lo≤k→k<hi→¬ P k) (h2:hi≤w.heap.size):V.Same lo hi w w':=fun k h1 h3=>h.block k (by omega) (hb k h1 h3)
theorem Xv.cell {p:Addr} {v:Value} (h:Xv P w w') (hp:¬ P p.block) (hc:w.cell? p=some v):w'.cell? p=some v :=
 (World.cell?_of_block (w:=w) (h.block _ (World.block_lt_of_cell? w p hc) hp)).trans hc
theorem Xv.grown {row:Option Nat} (h:Xv P w w') (hr:∀ k,row=some k→k<w.heap.size→P k) (hg:w'.grownBy w'' row):Xv P w w'' :=
 h.trans (Q:=fun k=>row=some k) ⟨hg.os,hg.tape,hg.output,hg.size,fun k hk hp=>hg.block k hk (fun e=>hp e.symm)⟩ (fun i hi e=>hr i e hi)
end
end
namespace Ma
open Ta (Tm El dD iB TabAt oJ wG zN)
open So (aM)
open D (Dm Wf bF aG oL mD aF dM aIy rF)
def jF (w:World) (bad:Nat→Prop) (us:List Value) (ls:List (List Int)):Prop:=us.length=ls.length∧∀ j (h:j<ls.length),∃ u,us[j]?=some u∧aH w bad u ls[j]
theorem jF.nil (w:World) (bad:Nat→Prop):jF w bad [] []:=⟨rfl,fun j h=>by cases h⟩
theorem jF.keep {w w':World} {bad bad':Nat→Prop} {us:List Value} {ls:List (List Int)} (h:jF w bad us ls) (hz:w.heap.size≤w'.heap.size) (hk:∀ k,k<w.heap.size→¬ bad k→w'.heap[k]?=w.heap[k]?) (hb:∀ k,k<w.heap.size→bad' k→bad k):jF w' bad' us ls :=
 ⟨h.1,fun j hj=>by obtain⟨u,h1,h2⟩:=h.2 j hj;exact⟨u,h1,h2.keep hz hk hb⟩⟩
theorem jF.push {w:World} {bad:Nat→Prop} {us:List Value} {ls:List (List Int)} {u:Value} {l:List Int} (h:jF w bad us ls) (hu:aH w bad u l):jF w bad (us++[u]) (ls++[l]):=by
 refine⟨by simp[h.1],fun j hj=>?_⟩;by_cases hjl:j<ls.length
 · obtain⟨x,h1,h2⟩:=h.2 j hjl;refine⟨x,?_,?_⟩
   · rw[List.getElem?_append_left (by rw[h.1];exact hjl)];exact h1
   · rw[List.getElem_append_left hjl];exact h2
 · obtain rfl:j=ls.length:=by simp at hj;omega
   refine⟨u,?_,?_⟩
   · rw[List.getElem?_append_right (by rw[h.1];exact Nat.le_refl _),h.1];simp
   · rw[List.getElem_append_right lr];simpa using hu
theorem jF.one {w:World} {bad:Nat→Prop} {us:List Value} {ls:List (List Int)} (h:jF w bad us ls):∀ u∈us,u.oneCell'=true:=by
 intro u hu;obtain⟨j,hj,rfl⟩:=List.getElem_of_mem hu;obtain⟨x,h1,h2⟩:=h.2 j (by rw[← h.1];exact hj);rw[List.getElem?_eq_getElem hj] at h1;cases h1;obtain⟨a,cap,e,_⟩:=h2;rw[e];rfl
theorem vD:(prog.info? 42).map (fun i=>(i.zero,i.size,i.bytes))=some (some (.slice none 0 0),1,24):=by kernel_rfl
theorem aJg {W2:World} {ov ov':Value} (hat:ov'.ownBlock=ov.ownBlock∨ov'.ownBlock=some W2.heap.size) (k:Nat) (hk:k<W2.heap.size) (e:ov'.ownBlock=some k):ov.ownBlock=some k:=by
 rcases hat with h2 | h2
 · exact h2.symm.trans e
 · rw[h2] at e;have:=Option.some.inj e;omega
theorem sZ {W2 w9:World} {ov ov' v:Value} {l:List Int} (h:aH W2 (fun k=>ov.ownBlock=some k) v l) (hg:W2.grownBy w9 ov.ownBlock) (hat:ov'.ownBlock=ov.ownBlock∨ov'.ownBlock=some W2.heap.size):aH w9 (fun k=>ov'.ownBlock=some k) v l :=
 h.keep hg.size (fun k hk hn=>hg.block k hk (fun e=>hn e.symm)) (aJg hat)
theorem kF {wr W2 w9:World} {ov ov' u:Value} {us:List Value} {ls:List (List Int)} {r:List Int} (h:jF wr (fun k=>ov.ownBlock=some k) us ls) (hb:Below wr.heap.size wr W2) (hu:aH W2 (fun k=>ov.ownBlock=some k) u r) (hg:W2.grownBy w9 ov.ownBlock) (hat:ov'.ownBlock=ov.ownBlock∨ov'.ownBlock=some W2.heap.size) :
 jF w9 (fun k=>ov'.ownBlock=some k) (us++[u]) (ls++[r]) :=
 ((h.keep hb.size (fun k hk _=>hb.block k hk) (fun _ _ e=>e)).keep hg.size (fun k hk hn=>hg.block k hk (fun e=>hn e.symm)) (aJg hat)).push (sZ hu hg hat)
theorem aH.none {w:World} {bad:Nat→Prop} {g off cap:Nat}:aH w bad (.slice (some ⟨g,off,Option.none⟩) 0 cap) []:=⟨_,cap,rfl,Nat.zero_le _,fun e=>by(cases e),fun j h=>by cases h⟩
def aSm (r:List (List Int)) (w:World) (e:Ending) (w':World):Prop:=∃ v us,e=.returned v∧w'.ownsRow w.heap.size 42 1 v us.length us∧jF w' (fun _=>False) us r∧Below w.heap.size w w'
theorem aSn {D:Dm} (wf:Wf D) (T:Tm) (h0:T.ent []=none) (hlong:∀ x,0≤T.long x∧T.long x≤8) (v t s:Value) (L:List Int) (w:World) (hd:bF w 0 w.heap.size v D) (ht:TabAt w 0 w.heap.size t T) (hs:IntsIn w 0 w.heap.size s L) (hlf:aM L) (hll:L.length≤65536) :
 Calls prog 221 #[v,t,s] w (aSm (eB (aG D) T (dM D L).length (dM D L)) w):=by
 obtain⟨pd,hpd⟩:∃ pd,v=.pointer (some pd):=by obtain⟨pd,_,_,_,h,_⟩:=hd;exact⟨_,h⟩
 subst hpd;obtain⟨pt,hpt⟩:∃ pt,t=.pointer (some pt):=by obtain⟨pt,_,_,_,_,_,_,h,_⟩:=ht;exact⟨_,h⟩
 subst hpt;obtain⟨a,cap,rfl,hcap,_⟩:=hs.form;have HS:=zh hs;have HD:=zh hd;have HT:=zh ht;have HW:=zh wf;have H0:=zh h0;have HLO:=zh hlong;have HLF:=zh hlf;have hfo:=rF wf hlf;have hF1:(dM D L).length≤4194304:=by omega
 have pV:=zh hfo.2;obtain⟨F,hF⟩:∃ F,dM D L=F:=⟨_,rfl⟩
 have HFF:=zh hF;rw[hF] at hF1 pV ⊢;obtain⟨Z,hZ⟩:∃ Z,eB (aG D) T F.length F=Z:=⟨_,rfl⟩
 have hZl:=uX (aG D) T F.length F;rw[hZ] at hZl;have HZ:=zh hZ;rw[hZ];clear hs hd ht wf h0 hlong hlf hfo hF hZ;go_enter func221,ntmps221;go_wp2_with fail;go_step3
 go_wp2_with fail;refine(aIy HW.out (.pointer (some pd)) _ L w HD.out HS.out HLF.out hll).mono ?_;rintro e w1 ⟨fo,rfl,hfo,hb1⟩;rw[HFF.out] at hfo;have hfp:=hfo.place (bad:=fun _=>False) (fun _ _ _ _ h=>h);obtain⟨af,bVp,rfl⟩:=aP hfo;have HB1:=zh hb1;have hsz1:=hb1.size;clear hb1 hfo;go_wp2_with fail;go_step3
 go_wp2_with fail;go_loopg [7,8] F.length (fun f ov rv wr=>∃ (l:List Int) (us:List Value) (done:List (List Int)),wr.ownsRow w.heap.size 42 1 ov us.length us∧jF wr (fun k=>ov.ownBlock=some k) us done∧aH wr (fun k=>ov.ownBlock=some k) rv l∧Below w.heap.size w wr∧l.length≤f∧l.length≤4194304∧done.length+f≤F.length ∧
  RowKit.Hid (aM l)∧RowKit.Hid (done++eB (aG D) T f l=Z))
 case atStart=>exact⟨F,[],[],World.ownsRow_nil _ _ _ _,jF.nil _ _,hfp.mono (fun _ _ e=>by cases e),HB1.out,Nat.le_refl _,hF1,by simp,pV,HZ⟩
 case round =>
  obtain⟨l,us,done,hO,hRs,hl,hB,hlf,hl4,hdl,HLf,HZr⟩:=hrel;obtain⟨a7,kE,rfl⟩:=aP hO;have hsz:=hB.size;have bFk:us.length≤4194304:=by have:=hRs.1;omega
  have HO:=zh hO;have HRs:=zh hRs;have HB:=zh hB;have HLI:=zh hl;by_cases hpos:0<l.length
  · obtain⟨f,rfl⟩:∃ f,gk=f+1:=⟨gk-1,by omega⟩
    obtain⟨g,off,qB,rfl,hlc,hgl,hgb,hc⟩:=hl.pos hpos;have q1:decide ((0:Int)<(l.length:Int))=true:=by simp;omega
    obtain⟨x,hx⟩:∃ x,l[0]=x:=⟨_,rfl⟩
    have hc0:=hc 0 hpos;rw[hx,Nat.add_zero] at hc0;have hxi:aF x:=by rw[← hx];exact HLf.out _ (List.getElem_mem hpos)
    have hx0:l.getD 0 0=x:=by rw[So.getD_at hpos,hx]
    have HX0:=zh hx0;have HXI:=zh hxi;have hlo:=HLO.out x;have p0:(0:Int)<(l.length:Int):=by omega
    clear hO hRs hl hB hx hx0 hxi hc;go_wp2_with fail;refine(zN (.pointer (some pt)) T x HXI.out wr wr.heap.size ((HT.out.later HB.out lr).wide lr hsz)).mono ?_;rintro e wr ⟨rfl,rfl⟩;obtain⟨M,hM⟩:∃ M:Nat,T.long x=(M:Int):=⟨(T.long x).toNat,by omega⟩
    obtain⟨N0,hN0⟩:∃ N0,gT T l=N0:=⟨_,rfl⟩
    have hN1:N0=min M l.length:=by rw[← hN0];unfold gT;rw[HX0.out,hM];rfl
    obtain⟨N,hN⟩:∃ N,kS T l N0=N:=⟨_,rfl⟩
    have hNl:=bBz T l N0;rw[hN] at hNl;have HN:=zh hN;have HN0:=zh hN0;have HN1:=zh hN1;have bVq:N0≤l.length:=by omega
    rw[hM] at hlo ⊢;clear hN hN0 hN1 hM;by_cases hmn:(l.length:Int)<(M:Int)
    all_goals go_wp2_with fail
    all_goals
     go_loopw [7,8,9] (fun v7 v8 vn w2=>∃ n:Nat,v7=.slice a7 us.length kE∧v8=.slice (some ⟨g,off,none⟩) l.length qB∧vn=.int .i64 (n:Int)∧n≤N0∧Below wr.heap.size wr w2∧RowKit.Hid (kS T l n=N)) (fun _ _ vn _=>(intOf vn).toNat)
     case atStart=>exact⟨N0,rfl,rfl,by have:=HN1.out;congr 1<;>omega,Nat.le_refl _,zr,HN⟩
     case round =>
      rename World=>w2
      obtain⟨n,rfl,rfl,rfl,hn,hb2,HNn⟩:=hrel;have HB2:=zh hb2;have hsz2:=hb2.size;have HT2:=zh (show TabAt w2 0 w2.heap.size (.pointer (some pt)) T from(HT.out.later (HB.out.trans (hb2.mono hsz)) lr).wide lr (Nat.le_trans hsz hsz2));have bFl:=zh (show aH w2 (fun k=>Value.ownBlock (.slice a7 us.length kE)=some k) (.slice (some ⟨g,off,none⟩) l.length qB) l from HLI.out.below hb2 fun _ _ e=>e);clear hb2;cases n with
      | zero =>
       have hc2:w2.cell? ⟨g,off,none⟩=some (.int .i64 x):=(HB2.out.cell (p:=⟨g,off,none⟩) hgl).trans hc0;have hO2:=jG HO.out HB2.out;have lM:aV 1 ((w2.alloc (.cells #[.int .i64 x] 3)).alloc (.cells #[.slice (some ⟨w2.heap.size,0,none⟩) 1 1] 42)) (w2.heap.size+1) (w2.heap.size+1+1) (.slice (some ⟨w2.heap.size+1,0,none⟩) 1 1) 1 [.slice (some ⟨w2.heap.size,0,none⟩) 1 1]:=by
        simpa only [World.size_alloc] using aV.lit (w2.alloc (.cells #[.int .i64 x] 3)) 42 #[.slice (some ⟨w2.heap.size,0,none⟩) 1 1] 1 1 rfl
       have bJl:N=0:=HNn.out.symm;by_cases hc1:qB=1
       · have hl1:l.length=1:=by omega
         subst hc1;go_wp2_with (at_builtin;refine aO rfl (.tmp 66) (.tmp 71) 298 rfl 42 (.slice none 0 0) 1 24 underlying298 vD rfl (by decide) rfl ((hO2.alloc _).alloc _) rfl lM (fun u hu=>by rw[List.mem_singleton.1 hu];rfl) (by omega) (by decide) (by simp;omega) ?_;intro c9 nE w9 qY nD jM);have hW2:Below wr.heap.size wr ((w2.alloc (.cells #[.int .i64 x] 3)).alloc (.cells #[.slice (some ⟨w2.heap.size,0,none⟩) 1 1] 42)):=(HB2.out.alloc hsz2 _).alloc (by simp;omega) _;have qC:=fun k=>(World.ownsRow.lt HO.out k)
         have hux:aH ((w2.alloc (.cells #[.int .i64 x] 3)).alloc (.cells #[.slice (some ⟨w2.heap.size,0,none⟩) 1 1] 42)) (fun k=>Value.ownBlock (.slice a7 us.length kE)=some k) (.slice (some ⟨w2.heap.size,0,none⟩) 1 1) [x] :=
          aH.of (((aJ.one w2 w2.heap.size x lr).reads).alloc _ lr) (by simp) (fun k h1 _ e=>by have:=(qC k e).2;omega)
         have yA:=kF HRs.out hW2 hux nD jM;have uJ:=(HB.out.trans (hW2.mono hsz)).grown nD (by simp;omega) (fun k e=>(qC k e).1);have HZ9:=zh (show (done++[[x]])++eB (aG D) T f (l.drop 1)=Z by rw[← HZr.out,uW (by omega) (by rw[HN0.out,HN.out,bJl]),HX0.out,List.append_assoc];rfl);clear hux hW2 qC;have hd1:l.drop 1=[]:=List.drop_eq_nil_of_le (by omega);have hl9:aH w9 (fun k=>Value.ownBlock (.slice c9 (us.length+1) nE)=some k) (.slice (some ⟨g,off,none⟩) 0 0) (l.drop 1):=by rw[hd1];exact aH.none
         go_roundg f
         case rel=>exact⟨l.drop 1,us++[.slice (some ⟨w2.heap.size,0,none⟩) 1 1],done++[[x]],by simpa using qY,yA,hl9,uJ,by rw[List.length_drop];omega,by rw[List.length_drop];omega,by simp;omega,zh (HLf.out.dp _),HZ9⟩
         case measure=>omega
       · have hc1':1<qB:=by omega
         go_wp2_with (at_builtin;refine aO rfl (.tmp 66) (.tmp 71) 298 rfl 42 (.slice none 0 0) 1 24 underlying298 vD rfl (by decide) rfl ((hO2.alloc _).alloc _) rfl lM (fun u hu=>by rw[List.mem_singleton.1 hu];rfl) (by omega) (by decide) (by simp;omega) ?_;intro c9 nE w9 qY nD jM);have hW2:Below wr.heap.size wr ((w2.alloc (.cells #[.int .i64 x] 3)).alloc (.cells #[.slice (some ⟨w2.heap.size,0,none⟩) 1 1] 42)):=(HB2.out.alloc hsz2 _).alloc (by simp;omega) _;have qC:=fun k=>(World.ownsRow.lt HO.out k)
         have hux:aH ((w2.alloc (.cells #[.int .i64 x] 3)).alloc (.cells #[.slice (some ⟨w2.heap.size,0,none⟩) 1 1] 42)) (fun k=>Value.ownBlock (.slice a7 us.length kE)=some k) (.slice (some ⟨w2.heap.size,0,none⟩) 1 1) [x] :=
          aH.of (((aJ.one w2 w2.heap.size x lr).reads).alloc _ lr) (by simp) (fun k h1 _ e=>by have:=(qC k e).2;omega)
         have yA:=kF HRs.out hW2 hux nD jM;have uJ:=(HB.out.trans (hW2.mono hsz)).grown nD (by simp;omega) (fun k e=>(qC k e).1);have HZ9:=zh (show (done++[[x]])++eB (aG D) T f (l.drop 1)=Z by rw[← HZr.out,uW (by omega) (by rw[HN0.out,HN.out,bJl]),HX0.out,List.append_assoc];rfl);clear hux hW2 qC;have hl9:=sZ ((bFl.out.drop 1 (by omega)).below (bad':=fun k=>Value.ownBlock (.slice a7 us.length kE)=some k) ((zr.alloc lr _).alloc (by simp) _) (fun _ _ e=>e)) nD jM;go_roundg f
         case rel=>exact⟨l.drop 1,us++[.slice (some ⟨w2.heap.size,0,none⟩) 1 1],done++[[x]],by simpa using qY,yA,hl9,uJ,by rw[List.length_drop];omega,by rw[List.length_drop];omega,by simp;omega,zh (HLf.out.dp _),HZ9⟩
         case measure=>omega
      | succ n =>
       have q2:decide ((0:Int)<(n:Int)+1)=true:=decide_eq_true (by omega);have jn:(n:Int)+1≤(qB:Int):=by omega
       have HTK:=zh (bFl.out.take (n+1) (by omega));have HFT:=zh (show aM (l.take (n+1)) from HLf.out.tk _);go_wp2_with fail;refine(oJ (.pointer (some pt)) _ T (l.take (n+1)) w2 HT2.out HTK.out.reads HFT.out H0.out).mono ?_;rintro e w3 ⟨u',rfl,_,hb3⟩;have HB3:=zh (HB2.out.trans (hb3.mono hsz2));have aSg:=Nat.le_trans hsz2 hb3.size;have bFm:=zh (bFl.out.below hb3 (bad':=fun k=>Value.ownBlock (.slice a7 us.length kE)=some k) fun _ _ e=>e);clear hb3;cases hfm:(dD T (l.take (n+1))).isSome with
       | false =>
        rw[bBy hfm] at HNn;clear hfm;go_wp2_with fail;exact⟨⟨n,rfl,rfl,by simp,by omega,HB3.out,HNn⟩,by simp[intOf]⟩
       | true =>
        have hNe:n+1=N:=by rw[← HNn.out,aXc hfm]
        have hN1:1≤N:=by omega
        have hN2:N≤l.length:=by omega
        rw[hNe] at HTK HFT ⊢;have bVr:=zh (bFm.out);have HCK:=zh (show IntsIn w3 0 w3.heap.size (.slice (some ⟨g,off,none⟩) N qB) (l.take N) from(bFm.out.take N hN2).reads);have HCL:=zh (show (l.take N).length≤1099511627776 by rw[List.length_take];omega);have HL7:=zh (fun k=>(World.ownsRow.lt HO.out k));obtain⟨row,left,hrl⟩:∃ row left,jK (aG D) T (l.drop N) (l.take N) [] 0=(row,left):=⟨_,_,rfl⟩
        have hfk:=aQk (c:=aG D) (T:=T) (l.drop N) (l.take N) [] 0 (HLf.out.dp _) (HLf.out.tk _) (fun x hx=>by cases hx);rw[hrl] at hfk;have HFK:=zh hfk;have HRL:=zh hrl;have HZ9:=zh (show (done++[row])++eB (aG D) T f left=Z by rw[← HZr.out,aBi (by omega) (by rw[HN0.out,HN.out]) (by omega) hrl,List.append_assoc];rfl);clear hfm hNe hrl hfk;have HLD:=zh (show (l.take N).length≤4194304∧(l.drop N).length≤4194304 by rw[List.length_take,List.length_drop];omega);have jN1:(N:Int)≤(l.length:Int):=by omega
        have jN2:(N:Int)≤(qB:Int):=by omega
        by_cases hcn:qB=N
        · have hl1:l.length=N:=by omega
          subst hcn;have HRS:=zh (show aH w3 (fun k=>Value.ownBlock (.slice a7 us.length kE)=some k) (.slice (some ⟨g,off,none⟩) 0 0) (l.drop qB) by rw[List.drop_eq_nil_of_le (by omega)];exact aH.none);go_wp2_with fail;go_region_held3 (fun _=>True) (trivial) (first
           | (go_at_call 90
              refine(mJ (.slice (some ⟨g,off,none⟩) qB qB) (l.take qB) w3.drew 0 w3.heap.size HCK.out lr HCL.out).mono ?_;rintro e w5 ⟨u,rfl,hu,hb5⟩;have lJ:=zh (show Below w3.heap.size w3 w5 from⟨hb5.os,hb5.tape,hb5.output,hb5.size,hb5.block⟩);have HU:=zh (show aH w5 (fun k=>Value.ownBlock (.slice a7 us.length kE)=some k) u (l.take qB) from hu.place fun k _ hk _ e=>by have h1:=(HL7.out k e).2;have h2:w3.heap.size≤k:=hk;omega);have HR5:=zh (HRS.out.below lJ.out (bad':=(fun k=>Value.ownBlock (.slice a7 us.length kE)=some k)) fun _ _ e=>e);have HW5:=zh (HB3.out.trans (lJ.out.mono aSg));clear hu hb5)
           | (go_at_call 239
              refine(zQ HW.out T H0.out (.pointer (some pd)) (.pointer (some pt)) u (.slice (some ⟨g,off,none⟩) 0 0) (fun k=>Value.ownBlock (.slice a7 us.length kE)=some k) (l.take qB) (l.drop qB) _ ((HD.out.later (HB.out.trans (HW5.out.mono hsz)) lr).wide lr (Nat.le_trans hsz HW5.out.size)) ((HT.out.later (HB.out.trans (HW5.out.mono hsz)) lr).wide lr (Nat.le_trans hsz HW5.out.size)) HU.out HR5.out (fun k e=>Nat.lt_of_lt_of_le (HL7.out k e).2 HW5.out.size) HFT.out (HLf.out.dp _) HLD.out.1 HLD.out.2).mono ?_;rintro e w6 ⟨u1,u2,rfl,h1,h2,hb6⟩;rw[HRL.out] at h1 h2;have HW6:=zh (show Below wr.heap.size wr w6 from HW5.out.trans ((show Below w5.heap.size w5 w6 from⟨hb6.os,hb6.tape,hb6.output,hb6.size,hb6.block⟩).mono HW5.out.size));have H61:=zh h1;have H62:=zh h2;clear h1 h2 hb6))
          all_goals
           have bCe:=HW6.out.size;have hO6:=jG HO.out HW6.out;obtain⟨c1,cp1,e1,_⟩:=H61.out.form;subst e1;have lM:aV 1 (w6.alloc (.cells #[.slice c1 row.length cp1] 42)) w6.heap.size (w6.heap.size+1) (.slice (some ⟨w6.heap.size,0,none⟩) 1 1) 1 [.slice c1 row.length cp1]:=aV.lit w6 42 #[.slice c1 row.length cp1] 1 1 rfl;go_wp2_with (at_builtin;refine aO rfl (.tmp 61) (.tmp 63) 298 rfl 42 (.slice none 0 0) 1 24 underlying298 vD rfl (by decide) rfl (hO6.alloc _) rfl lM (fun u hu=>by rw[List.mem_singleton.1 hu];rfl) (by omega) (by decide) (by simp;omega) ?_;intro c9 nE w9 qY nD jM);have hW2:Below wr.heap.size wr (w6.alloc (.cells #[.slice c1 row.length cp1] 42)):=HW6.out.alloc bCe _;have yA:=kF HRs.out hW2 (H61.out.below (bad':=(fun k=>Value.ownBlock (.slice a7 us.length kE)=some k)) (zr.alloc lr _) fun _ _ e=>e) nD jM;have hl9:=sZ (H62.out.below (bad':=(fun k=>Value.ownBlock (.slice a7 us.length kE)=some k)) (zr.alloc lr _) fun _ _ e=>e) nD jM;have uJ:=(HB.out.trans (hW2.mono hsz)).grown nD (by simp;omega) (fun k e=>(HL7.out k e).1);have bFo:=HFK.out.2.2.1;rw[List.length_drop,List.length_nil] at bFo;clear hW2 lM;go_roundg f
           case rel=>exact⟨left,us++[.slice c1 row.length cp1],done++[row],by simpa using qY,yA,hl9,uJ,by omega,by omega,by simp;omega,zh HFK.out.2.1,HZ9⟩
           case measure=>omega
        · have hcn':N<qB:=by omega
          have HRS:=zh (bFm.out.drop N hN2);go_wp2_with fail;go_region_held3 (fun _=>True) (trivial) (first
           | (go_at_call 90
              refine(mJ (.slice (some ⟨g,off,none⟩) N qB) (l.take N) w3.drew 0 w3.heap.size HCK.out lr HCL.out).mono ?_;rintro e w5 ⟨u,rfl,hu,hb5⟩;have lJ:=zh (show Below w3.heap.size w3 w5 from⟨hb5.os,hb5.tape,hb5.output,hb5.size,hb5.block⟩);have HU:=zh (show aH w5 (fun k=>Value.ownBlock (.slice a7 us.length kE)=some k) u (l.take N) from hu.place fun k _ hk _ e=>by have h1:=(HL7.out k e).2;have h2:w3.heap.size≤k:=hk;omega);have HR5:=zh (HRS.out.below lJ.out (bad':=(fun k=>Value.ownBlock (.slice a7 us.length kE)=some k)) fun _ _ e=>e);have HW5:=zh (HB3.out.trans (lJ.out.mono aSg));clear hu hb5)
           | (go_at_call 239
              refine(zQ HW.out T H0.out (.pointer (some pd)) (.pointer (some pt)) u (.slice (some ⟨g,off+N,none⟩) (l.length-N) (qB-N)) (fun k=>Value.ownBlock (.slice a7 us.length kE)=some k) (l.take N) (l.drop N) _ ((HD.out.later (HB.out.trans (HW5.out.mono hsz)) lr).wide lr (Nat.le_trans hsz HW5.out.size)) ((HT.out.later (HB.out.trans (HW5.out.mono hsz)) lr).wide lr (Nat.le_trans hsz HW5.out.size)) HU.out HR5.out (fun k e=>Nat.lt_of_lt_of_le (HL7.out k e).2 HW5.out.size) HFT.out (HLf.out.dp _) HLD.out.1 HLD.out.2).mono ?_;rintro e w6 ⟨u1,u2,rfl,h1,h2,hb6⟩;rw[HRL.out] at h1 h2;have HW6:=zh (show Below wr.heap.size wr w6 from HW5.out.trans ((show Below w5.heap.size w5 w6 from⟨hb6.os,hb6.tape,hb6.output,hb6.size,hb6.block⟩).mono HW5.out.size));have H61:=zh h1;have H62:=zh h2;clear h1 h2 hb6))
          all_goals
           have bCe:=HW6.out.size;have hO6:=jG HO.out HW6.out;obtain⟨c1,cp1,e1,_⟩:=H61.out.form;subst e1;have lM:aV 1 (w6.alloc (.cells #[.slice c1 row.length cp1] 42)) w6.heap.size (w6.heap.size+1) (.slice (some ⟨w6.heap.size,0,none⟩) 1 1) 1 [.slice c1 row.length cp1]:=aV.lit w6 42 #[.slice c1 row.length cp1] 1 1 rfl;go_wp2_with (at_builtin;refine aO rfl (.tmp 61) (.tmp 63) 298 rfl 42 (.slice none 0 0) 1 24 underlying298 vD rfl (by decide) rfl (hO6.alloc _) rfl lM (fun u hu=>by rw[List.mem_singleton.1 hu];rfl) (by omega) (by decide) (by simp;omega) ?_;intro c9 nE w9 qY nD jM);have hW2:Below wr.heap.size wr (w6.alloc (.cells #[.slice c1 row.length cp1] 42)):=HW6.out.alloc bCe _;have yA:=kF HRs.out hW2 (H61.out.below (bad':=(fun k=>Value.ownBlock (.slice a7 us.length kE)=some k)) (zr.alloc lr _) fun _ _ e=>e) nD jM;have hl9:=sZ (H62.out.below (bad':=(fun k=>Value.ownBlock (.slice a7 us.length kE)=some k)) (zr.alloc lr _) fun _ _ e=>e) nD jM;have uJ:=(HB.out.trans (hW2.mono hsz)).grown nD (by simp;omega) (fun k e=>(HL7.out k e).1);have bFo:=HFK.out.2.2.1;rw[List.length_drop,List.length_nil] at bFo;clear hW2 lM;go_roundg f
           case rel=>exact⟨left,us++[.slice c1 row.length cp1],done++[row],by simpa using qY,yA,hl9,uJ,by omega,by omega,by simp;omega,zh HFK.out.2.1,HZ9⟩
           case measure=>omega
  · have hl0:l.length=0:=by omega
    rw[aBh hl0,List.append_nil] at HZr;have hd:done=Z:=HZr.out;subst hd;obtain⟨a8,qB,rfl,_⟩:=hl.form;have q1:decide ((0:Int)<(l.length:Int))=false:=decide_eq_false (by omega);have hr9:=hRs.keep lr (fun _ _ _=>rfl) (bad':=fun _=>False) (fun _ _ e=>e.elim);clear hRs hl HRs HLI HO HB HZr hpos;go_wp2_with fail;refine bodyPost_ret (v:=.slice a7 us.length kE) (by simp[results,Tryz.f221]) rfl ?_;exact⟨_,us,rfl,hO,hr9,hB⟩
open Ta (Tm El dD iB TabAt oJ wG zT iR ev aGj aGq bFp)
open D (Dm Wf bF aG aF dM rF)
def vE (T:Tm) (row:List Int):List El:=(dD T row).getD (iB (row.getD 0 0))
theorem tC (c:Int→Int) (T:Tm) (l:List Int):mH c T l=(eB c T l.length l).flatMap (vE T):=rfl
theorem aJh {T:Tm} (h16:∀ l es,T.ent l=some es→es.length≤16) (row:List Int):(vE T row).length≤16:=by
 unfold vE;cases h:dD T row with
 | none =>
  show (iB _).length≤16
  unfold iB;split<;>simp
 | some es =>
  show es.length≤16
  unfold dD at h;split at h
  · exact h16 _ _ h
  · cases h
theorem bCf {c:Int→Int} {T:Tm} (l row stay:List Int) (hi:Int) (h:row≠[]):(jK c T l row stay hi).1≠[]:=by
 induction l generalizing row stay hi with
 | nil=>exact h
 | cons p r ih =>
  by_cases h1:c p=0
  · rw[xX h1];exact h
  by_cases h2:hi<c p∧(dD T (row++[p])).isSome=true
  · rw[xY h1 h2.1 h2.2];exact ih _ _ _ (by simp)
  · rw[sW h1 h2];exact ih _ _ _ h
theorem aJi {c:Int→Int} {T:Tm} (f:Nat) (l:List Int) (hl:aM l):∀ row∈eB c T f l,row≠[]∧aM row:=by
 induction f generalizing l with
 | zero=>intro row h;cases h
 | succ f ih =>
  intro row h;by_cases h0:l.length=0
  · rw[aBh h0] at h;cases h
  by_cases h1:kS T l (gT T l)=0
  · rw[uW h0 h1] at h;rcases List.mem_cons.1 h with rfl | h
    · exact⟨by simp,fun x hx=>by rw[List.mem_singleton.1 hx];exact hl.nth 0⟩
    · exact ih _ (hl.dp 1) row h
  · obtain⟨bJm,left,hrl⟩:∃ bJm left,jK c T (l.drop (kS T l (gT T l))) (l.take (kS T l (gT T l))) [] 0=(bJm,left):=⟨_,_,rfl⟩
    have hok:=aQk (c:=c) (T:=T) (l.drop (kS T l (gT T l))) (l.take (kS T l (gT T l))) [] 0 (hl.dp _) (hl.tk _) (fun x hx=>by cases hx);have hne:=bCf (c:=c) (T:=T) (l.drop (kS T l (gT T l))) (l.take (kS T l (gT T l))) [] 0 (fun e=>by
     have:=congrArg List.length e;rw[List.length_take,List.length_nil] at this;omega)
    rw[aBi h0 rfl h1 hrl] at h;rw[hrl] at hok hne;rcases List.mem_cons.1 h with rfl | h
    · exact⟨hne,hok.1⟩
    · exact ih _ hok.2.1 row h
theorem aMu (l:List (List Int)) (P:List Int→List El) (j:Nat) (h:j<l.length):(l.take (j+1)).flatMap P=(l.take j).flatMap P++P l[j]:=by
 rw[List.take_add_one,List.getElem?_eq_getElem h,List.flatMap_append];simp
theorem aSo (l:List (List Int)) (P:List Int→List El) (n:Nat) (h:∀ q,(P q).length≤n):(l.flatMap P).length≤l.length*n:=by
 induction l with
 | nil=>simp
 | cons q r ih =>
  have h1:=h q;rw[List.flatMap_cons,List.length_append,List.length_cons,Nat.add_mul];omega
def yB (es:List El) (w:World) (e:Ending) (w':World):Prop:=∃ u,e=.returned u∧w'.ownsRow w.heap.size 176 4 u es.length (ev es)∧Below w.heap.size w w'
theorem qD {D:Dm} (wf:Wf D) (T:Tm) (h0:T.ent []=none) (hlong:∀ x,0≤T.long x∧T.long x≤8) (h16:∀ l es,T.ent l=some es→es.length≤16) (v t s:Value) (L:List Int) (w:World) (hd:bF w 0 w.heap.size v D) (ht:TabAt w 0 w.heap.size t T) (hs:IntsIn w 0 w.heap.size s L) (hlf:aM L) (hll:L.length≤65536) :
 Calls prog 201 #[v,t,s] w (yB (mH (aG D) T (dM D L)) w):=by
 have HS:=zh hs;have HD:=zh hd;have HT:=zh ht;have HW:=zh wf;have H0:=zh h0;have HLO:=zh hlong;have H16:=zh h16;have HLF:=zh hlf;obtain⟨pt,hpt⟩:∃ pt,t=.pointer (some pt):=by obtain⟨pt,_,_,_,_,_,_,h,_⟩:=ht;exact⟨_,h⟩
 subst hpt;have hfo:=rF wf hlf;obtain⟨R,hR⟩:∃ R,eB (aG D) T (dM D L).length (dM D L)=R:=⟨_,rfl⟩
 have hRl:=uX (aG D) T (dM D L).length (dM D L);have hRr:=aJi (c:=aG D) (T:=T) (dM D L).length (dM D L) hfo.2;rw[hR] at hRl hRr;have bOc:R.length≤4194304:=by omega
 have HR:=zh hR;have HRr:=zh hRr;rw[tC,hR];clear hs hd ht wf h0 hlong h16 hlf hfo hR hRr hRl;go_enter func201,ntmps201;go_wp2_with fail;refine(aSn HW.out T H0.out HLO.out v (.pointer (some pt)) s L w HD.out HT.out HS.out HLF.out hll).mono ?_;rintro e w1 ⟨rv,us,rfl,hO,hRs,hb1⟩;rw[HR.out] at hRs;obtain⟨ar,bVs,rfl⟩:=aP hO;have hlen:=hRs.1;obtain⟨n,hn⟩:∃ n,R.length=n:=⟨_,rfl⟩
 rw[hn] at hlen;have HN:=zh hn;have HB1:=zh hb1;have hsz1:=hb1.size;have HCE:=zh (show ∀ j,j<n→∃ g u,ar=some ⟨g,0,none⟩∧g<w1.heap.size∧w1.cell? ⟨g,j,none⟩=some u∧∃ h:j<R.length,aH w1 (fun _=>False) u R[j] from fun j hj=>by
  obtain⟨g,cap2,he,_,hg⟩:=World.ownsRow.form hO (by omega);injection he with e1 e2 e3
  subst e1;obtain⟨u,h1,h2⟩:=hRs.2 j (by rw[hn];exact hj);refine⟨g,u,rfl,hg,?_,by rw[hn];exact hj,h2⟩;rw[World.ownsRow.cellAt hO j (by omega)];exact h1)
 have HTw:=zh ((HT.out.later hb1 lr).wide lr hsz1);rw[hlen];clear hO hRs hb1 hlen;go_wp2_with fail;rw[hn] at bOc;clear hn;go_loopw [7,17] (fun o i wr=>∃ (j:Nat) (M:List El),j≤n∧i=.int .i64 (j:Int)∧wr.ownsRow w1.heap.size 176 4 o M.length (ev M)∧Below w1.heap.size w1 wr∧M.length≤j*16∧RowKit.Hid (M=(R.take j).flatMap (vE T))) (fun _ i _=>n-(intOf i).toNat)
 case atStart=>exact⟨0,[],Nat.zero_le _,rfl,World.ownsRow_nil _ _ _ _,zr,by simp,zh rfl⟩
 case round =>
  obtain⟨j,M,hj,rfl,hO,hB,hMl,HM⟩:=hrel;have hsz:=hB.size;obtain⟨a7,kE,rfl⟩:=aP hO;by_cases hlt:j<n
  · have q1:decide ((j:Int)<(n:Int))=true:=decide_eq_true (by omega);obtain⟨g,u,rfl,hg,hc,hjR,hu⟩:=HCE.out j hlt;have hc':=(hB.cell (p:=⟨g,j,none⟩) hg).trans hc;obtain⟨row,hrow⟩:∃ row,R[j]=row:=⟨_,rfl⟩
    rw[hrow] at hu;have hrr:=HRr.out _ (List.getElem_mem hjR);rw[hrow] at hrr;have hpos:0<row.length:=List.length_pos_iff.2 hrr.1;have HRF:=zh hrr.2;obtain⟨gr,bJn,bVt,rfl,hcu,hgr,_,hcr⟩:=hu.pos hpos;have HU:=zh (aH.reads (hu.below (bad':=fun _=>False) hB fun _ _ e=>e));have uY:=zh hO;have vY:=zh hB;have HE:=zh (show (R.take (j+1)).flatMap (vE T)=M++vE T row by rw[aMu _ _ _ hjR,hrow,← HM.out]);have hrl:=aJh H16.out row;have hc0:=(hB.cell (p:=⟨gr,bJn+0,none⟩) hgr).trans (hcr 0 hpos);obtain⟨x,hx⟩:∃ x,row[0]=x:=⟨_,rfl⟩
    rw[hx,Nat.add_zero] at hc0;have HX:=zh (show row.getD 0 0=x by rw[So.getD_at hpos,hx]);have p0:(0:Int)<(row.length:Int):=by omega
    clear hrow hrr hu hO hB hx hcr hc;go_wp2_with fail;refine(oJ (.pointer (some pt)) _ T row wr ((HTw.out.later vY.out lr).wide lr hsz) HU.out HRF.out H0.out).mono ?_;rintro e w2 ⟨u',rfl,hO2,hb2⟩;have hsz2:=hb2.size;have bJo:=zh (jG uY.out hb2);have HB2:=zh (vY.out.trans (hb2.mono hsz));obtain⟨a2,cap2,rfl⟩:=aP hO2;cases hfm:(dD T row).isSome with
    | true =>
     have hEe:(dD T row).getD []=vE T row:=by
      unfold vE;cases h:dD T row with
      | none=>rw[h] at hfm;cases hfm
      | some es=>rfl
     rw[hEe] at hO2 ⊢;have hur:=aV.own hO2;clear hfm hEe hO2 hb2;go_wp2_with (at_builtin;refine fF rfl (.tmp 33) (.tmp 34) 170 rfl 176 _ 4 32 underlying170 aMv rfl (by decide) rfl bJo.out rfl hur (aGj _) (by omega) (by decide) HB2.out (Nat.le_trans hsz hsz2) ?_;intro c3 oM w3 hO3 hB3 _ _);refine⟨⟨j+1,M++vE T row,by omega,by simp,?_,hB3,by rw[List.length_append];omega,zh HE.out.symm⟩,by simp[intOf];omega⟩;rw[aGq,List.length_append];exact hO3
    | false =>
     have hEe:iB x=vE T row:=by
      unfold vE;rw[HX.out];cases h:dD T row with
      | none=>rfl
      | some es=>rw[h] at hfm;cases hfm
     have hc2:=(hb2.cell (p:=⟨gr,bJn,none⟩) (Nat.lt_of_lt_of_le hgr hsz)).trans hc0;have HEe:=zh hEe;clear hfm hEe hO2 hb2;go_wp2_with fail;refine(zT x w2).mono ?_;rintro e w4 ⟨u4,rfl,hO4,hb4⟩;rw[HEe.out] at hO4;have bCg:=hb4.size;have bOd:=zh (jG bJo.out hb4);have dJ:=zh (HB2.out.trans (hb4.mono (Nat.le_trans hsz hsz2)));have hur:=aV.own hO4;clear hO4 hb4;go_wp2_with (at_builtin;refine fF rfl (.tmp 33) (.tmp 34) 170 rfl 176 _ 4 32 underlying170 aMv rfl (by decide) rfl bOd.out rfl hur (aGj _) (by omega) (by decide) dJ.out (Nat.le_trans hsz (Nat.le_trans hsz2 bCg)) ?_;intro c3 oM w3 hO3 hB3 _ _);refine⟨⟨j+1,M++vE T row,by omega,by simp,?_,hB3,by rw[List.length_append];omega,zh HE.out.symm⟩,by simp[intOf];omega⟩;rw[aGq,List.length_append];exact hO3
  · obtain rfl:j=n:=by omega
    have q1:decide ((j:Int)<(j:Int))=false:=decide_eq_false (by omega);have hM:=HM.out;rw[List.take_of_length_le (by rw[HN.out];exact Nat.le_refl _)] at hM;have uJ:=HB1.out.trans (hB.mono hsz1);have qY:=aGk hO hsz1;have pY:=zh hM;clear hM hO hB;go_wp2_with fail;go_ret;rw[← pY.out];exact⟨_,rfl,qY,uJ⟩
end Ma
namespace We
open Ta (El Tm TabAt)
open D (Dm Wf bF aG dM)
open Ma (mH)
def wds (sh:Bool):Bool→List El→List Wd
 | _,[]=>[]
 | b,x::r=>⟨x,sh&&(if x.p=0 then b else x.v)&&(x.v || x.p==0)⟩::wds sh (if x.p=0 then b else x.v) r
def dI (b:Bool) (l:List El):Bool:=l.foldl (fun b x=>if x.p=0 then b else x.v) b
theorem bCh (sh b:Bool) (l m:List El):wds sh b (l++m)=wds sh b l++wds sh (dI b l) m:=by
 induction l generalizing b with
 | nil=>rfl
 | cons x l ih=>rw[List.cons_append,wds,wds,ih];rfl
theorem aSp (b:Bool) (l:List El) (x:El):dI b (l++[x])=if x.p=0 then dI b l else x.v:=by unfold dI;rw[List.foldl_append];rfl
theorem aGr (sh b:Bool) (l:List El):(wds sh b l).length=l.length:=by
 induction l generalizing b with
 | nil=>rfl
 | cons x l ih=>rw[wds,List.length_cons,ih,List.length_cons]
def wts (i:Nat) (l:List Wd):List Int:=(l.map (rP i)).filter fun n=>decide (n≠0)
theorem aXm (i:Nat) (l:List Wd) (x:Wd):wts i (l++[x])=wts i l++(if rP i x=0 then [] else [rP i x]):=by
 unfold wts;rw[List.map_append,List.filter_append];congr 1
 by_cases h:rP i x=0<;>simp[h]
theorem bCi (i:Nat) (l:List Wd):(wts i l).length≤l.length:=by
 unfold wts;exact Nat.le_trans (List.length_filter_le _ _) (by rw[List.length_map];exact Nat.le_refl _)
structure Co where
 str:Int
 sh:Bool
 back:Bool
deriving DecidableEq
def Co.val (c:Co):Value:=.agg #[.int .i64 c.str,.bool c.sh,.bool c.back]
def Co.ok (c:Co):Prop:=1≤c.str∧c.str≤4∧(c.str=4→c.sh=true)
instance (c:Co):Decidable c.ok:=by unfold Co.ok;exact inferInstance
def aEs (D:Dm) (T:Tm) (c:Co) (s:ByteArray):List Wd:=wds c.sh false (mH (aG D) T (dM D (U.lN s)))
def yC (D:Dm) (T:Tm) (c:Co) (s:ByteArray) (i:Nat):List Int:=if i=1∧c.back=true then So.rH (wts i (aEs D T c s)) else wts i (aEs D T c s)
def allM (D:Dm) (T:Tm) (c:Co) (s:ByteArray):List (List Int):=(List.range c.str.toNat).map (yC D T c s)
def iV (l:List Int):List UInt8:=l.flatMap (fun n=>[UInt8.ofNat (n / 256 % 256).toNat,UInt8.ofNat (n % 256).toNat])++[0,0]
def bT (D:Dm) (T:Tm) (c:Co) (s:ByteArray):List UInt8:=(allM D T c s).flatMap iV
def gL (w:World) (lo hi:Nat) (v:Value) (D:Dm) (T:Tm):Prop :=
 ∃ pb m t,v=.pointer (some ⟨pb,0,none⟩)∧(lo≤pb∧pb<hi)∧w.cell? ⟨pb,0,none⟩=some m∧w.cell? ⟨pb,1,none⟩=some t∧bF w lo hi m D∧TabAt w lo hi t T
theorem gL.later {w w':World} {lo hi B:Nat} {v:Value} {D:Dm} {T:Tm} (h:gL w lo hi v D T) (hb:Below B w w') (hB:hi≤B):gL w' lo hi v D T:=by
 obtain⟨pb,m,t,rfl,h1,h2,h3,h4,h5⟩:=h;exact⟨pb,m,t,rfl,h1,(hb.cell (p:=⟨pb,0,none⟩) (by show pb<B;omega)).trans h2,(hb.cell (p:=⟨pb,1,none⟩) (by show pb<B;omega)).trans h3,h4.later hb hB,h5.later hb hB⟩
theorem gL.wide {w:World} {lo hi lo' hi':Nat} {v:Value} {D:Dm} {T:Tm} (h:gL w lo hi v D T) (h1:lo'≤lo) (h2:hi≤hi'):gL w lo' hi' v D T:=by
 obtain⟨pb,m,t,rfl,a1,a2,a3,a4,a5⟩:=h;exact⟨pb,m,t,rfl,by omega,a2,a3,a4.wide h1 h2,a5.wide h1 h2⟩
structure lF (T:Tm):Prop where
 none:T.ent []=none
 long:∀ x,0≤T.long x∧T.long x≤8
 few:∀ l es,T.ent l=some es→es.length≤16
 fits:∀ l es,T.ent l=some es→∀ x∈es,(0≤x.p∧x.p≤65535)∧(0≤x.s∧x.s≤65535)∧(0≤x.t∧x.t≤65535)
theorem rQ (s:ByteArray):So.aM (U.lN s):=by
 intro x hx;obtain⟨it,hit,rfl⟩:=List.mem_map.1 hx;have key:∀ (f k:Nat),∀ it∈U.iH s f k,D.aF it.2:=by
  intro f;induction f with
  | zero=>intro k it h;cases h
  | succ f ih =>
   intro k it h;unfold U.iH at h;split at h
   · split at h
     · rw[List.mem_singleton.1 h];show D.aF (-1);unfold D.aF;omega
     · rcases List.mem_cons.1 h with rfl | h
       · have h1:=U.aWr s k (U.aZ s k) (U.aZ s k-1);have h2:=U.aIs s k;have h3:(2:Nat) ^ (8+6*(U.aZ s k-1))≤2 ^ 26:=Nat.pow_le_pow_right (by decide) (by omega);show D.aF ((U.ptF s k (U.aZ s k) (U.aZ s k-1):Nat):Int)
         unfold D.aF;omega
       · exact ih _ it h
   · cases h
 exact key _ _ it hit
theorem vF (s:ByteArray):(U.lN s).length≤s.size:=by
 show (List.map _ _).length≤_
 rw[List.length_map];exact U.wI s
end We
namespace Sc
open V (Same)
open We (Co)
inductive Fd where
 | mk (name:ByteArray) (kind:Nat) (down:Bool) (aI:Nat) (bnd:Bool) (eX:Bool) (eG:ByteArray) (hib:Bool) (him:ByteArray) (most:Int) (co:Co) (fields:List Fd)
namespace Fd
def name:Fd→ByteArray | mk n _ _ _ _ _ _ _ _ _ _ _=>n
def kind:Fd→Nat | mk _ k _ _ _ _ _ _ _ _ _ _=>k
def down:Fd→Bool | mk _ _ d _ _ _ _ _ _ _ _ _=>d
def aI:Fd→Nat | mk _ _ _ n _ _ _ _ _ _ _ _=>n
def bnd:Fd→Bool | mk _ _ _ _ b _ _ _ _ _ _ _=>b
def eX:Fd→Bool | mk _ _ _ _ _ b _ _ _ _ _ _=>b
def eG:Fd→ByteArray | mk _ _ _ _ _ _ m _ _ _ _ _=>m
def hib:Fd→Bool | mk _ _ _ _ _ _ _ b _ _ _ _=>b
def him:Fd→ByteArray | mk _ _ _ _ _ _ _ _ m _ _ _=>m
def most:Fd→Int | mk _ _ _ _ _ _ _ _ _ m _ _=>m
def co:Fd→Co | mk _ _ _ _ _ _ _ _ _ _ c _=>c
def fields:Fd→List Fd | mk _ _ _ _ _ _ _ _ _ _ _ l=>l
end Fd
theorem Fd.eta (f:Fd):f=.mk f.name f.kind f.down f.aI f.bnd f.eX f.eG f.hib f.him f.most f.co f.fields:=by cases f;rfl
theorem Fd.ind {C:Fd→Prop} (h:∀ f:Fd,(∀ g∈f.fields,C g)→C f) (f:Fd):C f :=
 Fd.rec (motive_1:=C) (motive_2:=fun l=>∀ g∈l,C g) (fun n k d u b lb lm hb hm m c l ih=>h (.mk n k d u b lb lm hb hm m c l) ih) (fun g hg=>by cases hg)
  (fun hd tl h1 h2 g hg=>by
   rcases List.mem_cons.1 hg with e | e
   · exact e▸h1
   · exact h2 g e) f
structure jY (f:Fd):Prop where
 n:f.name.size≤140737488351232
 k:f.kind<256
 u:f.aI<256
 a:f.eG.size≤140737488351232
 b:f.him.size≤140737488351232
 m:D.aF f.most
 s:D.aF f.co.str
 l:f.fields.length≤140737488351232
def aR (f:Fd) (v:Value):List Value :=
 [.string f.name,.int .u8 f.kind,.bool f.down,.int .u8 f.aI,.bool f.bnd,.bool f.eX,.string f.eG,.bool f.hib,.string f.him,.int .i64 f.most,.int .i64 f.co.str,.bool f.co.sh,.bool f.co.back,v]
def lG (w:World) (b o:Nat) (f:Fd) (v:Value):Prop:=∀ k (h:k<14),w.cell? ⟨b,o+k,none⟩=some ((aR f v)[k]'h)
theorem lG.same {lo hi b o:Nat} {w w':World} {f:Fd} {v:Value} (h:lG w b o f v) (hs:Same lo hi w w') (h1:lo≤b) (h2:b<hi):lG w' b o f v:=fun k hk=>hs.cell h1 h2 (h k hk)
inductive FI (w:World) (lo hi:Nat):List Fd→Value→Prop
 | mk (l:List Fd) (a:Option Addr) (cap:Nat) (F:Nat→Value) (hc:l.length≤cap)
  (cells:∀ j (h:j<l.length),∃ b off,a=some ⟨b,off,none⟩∧lo≤b∧b<hi∧lG w b (off+j*14) l[j] (F j))
  (fits:∀ j (h:j<l.length),jY l[j]) (deep:∀ j (h:j<l.length),FI w lo hi l[j].fields (F j)):FI w lo hi l (.slice a l.length cap)
theorem FI.same {lo hi:Nat} {w w':World} {l:List Fd} {v:Value} (h:FI w lo hi l v) (hs:Same lo hi w w'):FI w' lo hi l v:=by
 induction h with
 | mk l a cap F hc cells fits deep ih =>
  exact .mk l a cap F hc (fun j hj=>by
   obtain⟨b,off,ha,h1,h2,h3⟩:=cells j hj;exact⟨b,off,ha,h1,h2,h3.same hs h1 h2⟩) fits ih
theorem FI.wide {lo hi lo' hi':Nat} {w:World} {l:List Fd} {v:Value} (h:FI w lo hi l v) (h1:lo'≤lo) (h2:hi≤hi'):FI w lo' hi' l v:=by
 induction h with
 | mk l a cap F hc cells fits deep ih =>
  exact .mk l a cap F hc (fun j hj=>by
   obtain⟨b,off,ha,h3,h4,h5⟩:=cells j hj;exact⟨b,off,ha,by omega,by omega,h5⟩) fits ih
theorem FI.nil (w:World) (lo hi:Nat):FI w lo hi [] (.slice none 0 0):=.mk [] none 0 (fun _=>.slice none 0 0) lr (fun j h=>by cases h) (fun j h=>by cases h) (fun j h=>by cases h)
theorem FI.open {lo hi:Nat} {w:World} {l:List Fd} {v:Value} (h:FI w lo hi l v):∃ (a:Option Addr) (cap:Nat),v=.slice a l.length cap∧l.length≤cap ∧
 ∀ j (h:j<l.length),∃ b off u,a=some ⟨b,off,none⟩∧lo≤b∧b<hi∧lG w b (off+j*14) l[j] u∧jY l[j]∧FI w lo hi l[j].fields u:=by
 cases h with
 | mk _ a cap F hc cells fits deep =>
  refine⟨a,cap,rfl,hc,fun j hj=>?_⟩;obtain⟨b,off,ha,h1,h2,h3⟩:=cells j hj;exact⟨b,off,F j,ha,h1,h2,h3,fits j hj,deep j hj⟩
def FV (w:World) (hi:Nat) (f:Fd) (x:Value):Prop:=∃ v,x=.agg (aR f v).toArray∧jY f∧FI w 0 hi f.fields v
theorem FV.same {hi:Nat} {w w':World} {f:Fd} {x:Value} (h:FV w hi f x) (hs:Same 0 hi w w'):FV w' hi f x:=by
 obtain⟨v,h1,h2,h3⟩:=h;exact⟨v,h1,h2,h3.same hs⟩
theorem FV.wide {hi hi':Nat} {w:World} {f:Fd} {x:Value} (h:FV w hi f x) (h1:hi≤hi'):FV w hi' f x:=by
 obtain⟨v,h2,h3,h4⟩:=h;exact⟨v,h2,h3,h4.wide lr h1⟩
def rR (c:UInt8):Bool:=decide ((97≤c∧c≤122)∨(48≤c∧c≤57)∨c=45)
def kM (s:List UInt8):Bool:=match s with
 | []=>false
 | c::r=>decide ((c::r).length≤16)&&decide (97≤c∧c≤122)&&(c::r).all rR
def Co.zero (c:Co):Bool:=decide (c.str=0)&&!c.sh&&!c.back
def wJ (f:Fd):Bool :=
 if f.bnd then !(iJ f.eX f.eG.toList==0&&iJ f.hib f.him.toList==0&&decide (wE f.eX f.eG.toList f.hib f.him.toList≤0))
 else f.eX || !f.eG.toList.isEmpty || f.hib || !f.him.toList.isEmpty
def yD (f:Fd):Bool :=
 if f.kind<1∨7<f.kind∨2<f.aI then true
 else if (f.kind≠2∧(f.bnd || f.eX || !f.eG.toList.isEmpty || f.hib || !f.him.toList.isEmpty)=true)∨(¬ (f.kind=3∨f.kind=5)∧f.most≠0)∨(f.kind≠6∧Co.zero f.co=false)∨(f.kind≠7∧f.fields≠[]) then true
 else if f.kind=2 then wJ f
 else if f.kind=3∨f.kind=5 then decide (f.most<0∨65536<f.most)
 else if f.kind=6 then !decide f.co.ok
 else false
def uR (n d:Nat) (ahead:List Fd) (f:Fd):Bool :=
 decide (n≤64)&&decide (d≤16)&&kM f.name.toList&&ahead.all (fun x=>!(x.name.toList==f.name.toList))&&!yD f&&!(f.kind==7&&f.fields.isEmpty)
mutual
def oO (n d:Nat) (ahead:List Fd):Fd→Option Nat
 | .mk a k e u b lb lm hb hm m c l=>if uR (n+1) (d+1) ahead (.mk a k e u b lb lm hb hm m c l) then iF (n+1) (d+1) [] l else none
def iF (n d:Nat) (ahead:List Fd):List Fd→Option Nat
 | []=>some n
 | f::r=>match oO n d ahead f with
  | none=>none
  | some k=>iF k d (ahead++[f]) r
end
theorem wK (n d:Nat) (ahead:List Fd) (f:Fd):oO n d ahead f=if uR (n+1) (d+1) ahead f then iF (n+1) (d+1) [] f.fields else none:=by
 cases f;rw[oO];rfl
theorem oP (n d:Nat) (ahead:List Fd):iF n d ahead []=some n:=by rw[iF]
theorem kG (n d:Nat) (ahead:List Fd) (f:Fd) (r:List Fd):iF n d ahead (f::r)=(oO n d ahead f).bind fun k=>iF k d (ahead++[f]) r:=by
 rw[iF];cases oO n d ahead f<;>rfl
def rT (limit:Int) (l:List Fd):Bool:=decide (1≤limit∧limit≤65536)&&!l.isEmpty&&(iF 0 0 [] l).isSome
mutual
theorem aBk (d:Nat):∀ (f:Fd) (n n' m:Nat) (a a':List Fd),(∀ x∈a',x∈a)→n'≤n→oO n d a f=some m→n≤m∧oO n' d a' f=some (m-n+n')
 | .mk an k e u b lb lm hb hm mo c l=>fun n n' m a a' ha hn h=>by
  rw[wK] at h ⊢;split at h
  · next hf =>
    have hf':uR (n'+1) (d+1) a' (.mk an k e u b lb lm hb hm mo c l)=true:=by
     simp only [uR,Bool.and_eq_true,List.all_eq_true,decide_eq_true_eq] at hf ⊢;exact⟨⟨⟨⟨⟨by omega,hf.1.1.1.1.2⟩,hf.1.1.1.2⟩,fun x hx=>hf.1.1.2 x (ha x hx)⟩,hf.1.2⟩,hf.2⟩
    rw[if_pos hf'];have h2:=aBl (d+1) l (n+1) (n'+1) m [] [] (fun _ h=>h) (by omega) h;refine⟨by omega,?_⟩;rw[show (Fd.mk an k e u b lb lm hb hm mo c l).fields=l from rfl,h2.2];congr 1
    omega
  · cases h
theorem aBl (d:Nat):∀ (l:List Fd) (n n' m:Nat) (a a':List Fd),(∀ x∈a',x∈a)→n'≤n→iF n d a l=some m→n≤m∧iF n' d a' l=some (m-n+n')
 | []=>fun n n' m a a' ha hn h=>by
  rw[oP] at h ⊢;injection h with h
  subst h;exact⟨Nat.le_refl _,by congr 1<;>omega⟩
 | f::r=>fun n n' m a a' ha hn h=>by
  rw[kG] at h ⊢;cases hf:oO n d a f with
  | none=>rw[hf] at h;cases h
  | some k =>
   rw[hf] at h;have h1:=aBk d f n n' k a a' ha hn hf;have h2:=aBl d r k (k-n+n') m (a++[f]) (a'++[f]) (fun x hx=>by
    rcases List.mem_append.1 hx with h | h
    · exact List.mem_append_left _ (ha x h)
    · exact List.mem_append_right _ h) (by omega) h
   rw[h1.2];refine⟨by omega,?_⟩;rw[Option.bind_some,h2.2];congr 1
   omega
end
inductive xL:Nat→Fd→Prop
 | mk (d:Nat) (f:Fd) (hd:d<16) (hn:kM f.name.toList=true) (ho:yD f=false) (h7:f.kind=7→f.fields≠[]) (hl:f.fields.length≤64) (h:∀ g∈f.fields,xL (d+1) g):xL d f
mutual
theorem aXn (d:Nat):∀ (f:Fd) (n m:Nat) (a:List Fd),oO n d a f=some m→n<m∧m≤64∧xL d f
 | .mk an k e u b lb lm hb hm mo c l=>fun n m a h=>by
  rw[wK] at h;split at h
  · next hf =>
    simp only [uR,Bool.and_eq_true,List.all_eq_true,decide_eq_true_eq] at hf;obtain⟨h1,h2,h3⟩:=rU (d+1) l (n+1) m [] (by omega) h;refine⟨by omega,h2,.mk d _ (by omega) hf.1.1.1.2 (by simpa using hf.1.2) (fun h7 he=>?_) (by show l.length≤64;omega) h3⟩;have h4:=hf.2;rw[h7,he] at h4;simp at h4
  · cases h
theorem rU (d:Nat):∀ (l:List Fd) (n m:Nat) (a:List Fd),n≤64→iF n d a l=some m→n+l.length≤m∧m≤64∧∀ g∈l,xL d g
 | []=>fun n m a hn h=>by
  rw[oP] at h;injection h with h
  subst h;exact⟨Nat.le_refl _,hn,fun g hg=>by cases hg⟩
 | f::r=>fun n m a hn h=>by
  rw[kG] at h;cases hf:oO n d a f with
  | none=>rw[hf] at h;cases h
  | some k =>
   rw[hf] at h;obtain⟨h1,h2,h3⟩:=aXn d f n k a hf;obtain⟨h4,h5,h6⟩:=rU d r k m (a++[f]) h2 h;refine⟨by rw[List.length_cons];omega,h5,fun g hg=>?_⟩;rcases List.mem_cons.1 hg with rfl | hg
   · exact h3
   · exact h6 g hg
end
theorem aSq (d:Nat):∀ (l:List Fd) (n m:Nat) (a:List Fd) (f:Fd),f∈l→iF n d a l=some m→∃ k,iF 0 d [] [f]=some k:=by
 intro l;induction l with
 | nil=>intro n m a f hf;cases hf
 | cons g r ih =>
  intro n m a f hf h;rw[kG] at h;cases hg:oO n d a g with
  | none=>rw[hg] at h;cases h
  | some k =>
   rw[hg] at h;rcases List.mem_cons.1 hf with rfl | hf
   · refine⟨k-n+0,?_⟩;rw[kG,(aBk d f n 0 k a [] (fun _ h=>by cases h) (Nat.zero_le _) hg).2,Option.bind_some,oP]
   · exact ih k m _ f hf h
theorem aQq {limit:Int} {l:List Fd} {f:Fd} (h:rT limit l=true) (hf:f∈l):rT 65536 [f]=true:=by
 simp only [rT,Bool.and_eq_true,Option.isSome_iff_exists] at h ⊢;obtain⟨_,m,hm⟩:=h;exact⟨⟨by decide,rfl⟩,aSq 0 l 0 m [] f hf hm⟩
theorem lQ {limit:Int} {l:List Fd} (h:rT limit l=true):1≤limit∧limit≤65536∧l≠[]∧l.length≤64∧∀ f∈l,xL 0 f:=by
 simp only [rT,Bool.and_eq_true,Option.isSome_iff_exists,decide_eq_true_eq] at h;obtain⟨⟨h1,h2⟩,m,hm⟩:=h;obtain⟨h3,h4,h5⟩:=rU 0 l 0 m [] (by omega) hm;exact⟨h1.1,h1.2,fun he=>by(rw[he] at h2;cases h2),by omega,h5⟩
theorem xL.kind {d:Nat} {f:Fd} (h:xL d f):1≤f.kind∧f.kind≤7∧f.aI≤2:=by
 cases h with
 | mk _ _ hd hn ho h7 hl h =>
  unfold yD at ho;split at ho
  · cases ho
  · omega
open V (Pt aW cZ aL fB)
open Es (esc un)
def flips (d:Bool) (l:List UInt8):List UInt8:=l.map (fl d)
theorem jH (d:Bool) (l:List UInt8):flips d (flips d l)=l:=xS d l
theorem yE (d:Bool) (l m:List UInt8):flips d (l++m)=flips d l++flips d m:=List.map_append
def rV (f:Fd):UInt8:=if f.aI=1 then 2 else 125
def aAp (f:Fd):UInt8:=UInt8.ofNat (16+f.kind+(if f.down then 16 else 0))
def kU (c:Co):UInt8:=UInt8.ofNat (32+c.str.toNat+(if c.sh then 4 else 0)+(if c.back then 8 else 0))
def qW (l:List UInt8):List UInt8:=esc l++[0,1]
def qU:Pt:=.mk 0 false false .empty .empty []
def lH (K:Co→ByteArray→List UInt8) (f:Fd) (p:Pt):List UInt8 :=
 if p.kind=1 then [if p.yes then 1 else 0]
 else if p.kind=2 then bM p.neg p.mag.toList
 else if f.kind=4 then p.raw.toList
 else if f.kind=6 then kU f.co::(K f.co p.raw++qW p.raw.toList)
 else qW p.raw.toList
mutual
def qX (K:Co→ByteArray→List UInt8):Fd→Pt→List UInt8
 | .mk n k d u b lb lm hb hm m c l=>fun p =>
  let f:=Fd.mk n k d u b lb lm hb hm m c l
  if p.kind=0 then [rV f]
  else aAp f::flips d (if p.kind=7 then iW K l p.items++[1] else lH K f p)
def iW (K:Co→ByteArray→List UInt8):List Fd→List Pt→List UInt8
 | []=>fun _=>[]
 | f::r=>fun ps=>qX K f (ps.head?.getD qU)++iW K r ps.tail
end
theorem tF (K:Co→ByteArray→List UInt8) (f:Fd) (p:Pt):qX K f p=if p.kind=0 then [rV f] else aAp f::flips f.down (if p.kind=7 then iW K f.fields p.items++[1] else lH K f p):=by
 cases f;rw[qX];rfl
theorem rW (K:Co→ByteArray→List UInt8) (ps:List Pt):iW K [] ps=[]:=by rw[iW]
theorem tH (K:Co→ByteArray→List UInt8) (f:Fd) (r:List Fd) (ps:List Pt):iW K (f::r) ps=qX K f (ps.head?.getD qU)++iW K r ps.tail:=by rw[iW]
def rX (f:Fd) (b:Bool) (m:List UInt8):Bool:=!f.bnd || (decide (0≤wE b m f.eX f.eG.toList)&&decide (wE b m f.hib f.him.toList≤0))
def qE (f:Fd) (p:Pt):Bool :=
 if p.kind=2 then rX f p.neg p.mag.toList
 else (!(p.kind==3 || p.kind==5) || decide ((p.raw.size:Int)≤f.most))&&(!(p.kind==5 || p.kind==6) || decide (U.bK p.raw<0))
mutual
def mQ:Fd→Pt→Bool
 | .mk n k d u b lb lm hb hm m c l=>fun p =>
  if p.kind=0 then !(u==0)
  else p.kind==k&&(if p.kind=7 then p.items.length==l.length&&kH l p.items else qE (.mk n k d u b lb lm hb hm m c l) p)
def kH:List Fd→List Pt→Bool
 | []=>fun _=>true
 | f::r=>fun ps=>mQ f (ps.head?.getD qU)&&kH r ps.tail
end
theorem nL (f:Fd) (p:Pt):mQ f p=if p.kind=0 then !(f.aI==0) else p.kind==f.kind&&(if p.kind=7 then p.items.length==f.fields.length&&kH f.fields p.items else qE f p):=by
 cases f;rw[mQ];rfl
theorem aJj (ps:List Pt):kH [] ps=true:=by rw[kH]
theorem tJ (f:Fd) (r:List Fd) (ps:List Pt):kH (f::r) ps=(mQ f (ps.head?.getD qU)&&kH r ps.tail):=by rw[kH]
def eH:List UInt8→Option Nat
 | []=>none
 | c::r =>
  if c=255∨c=1 then match r with
   | []=>none
   | n::_=>some (2+(if c=1 then 255-n.toNat else n.toNat))
  else some (1+(if 128≤c.toNat then c.toNat-128 else if 1<c.toNat then 128-c.toNat else 0))
def rdNum (f:Fd) (l:List UInt8):Option (Pt×List UInt8) :=
 match eH l with
 | none=>none
 | some n=>if l.length<n then none else match jZ (l.take n) 0 with
  | .error _=>none
  | .ok (b,m,k)=>if k=n∧rX f b m=true then some (.mk 2 false b ⟨m.toArray⟩ .empty [],l.drop n) else none
def dQ (l:List UInt8):Option (List UInt8×List UInt8):=if (un l).2.2=0 then some ((un l).1,l.drop (un l).2.1) else none
def dF:List UInt8→Nat→Option (List UInt8×List UInt8)
 | l,0=>some ([],l)
 | a::b::r,n+1=>if a=0∧b=0 then (dF r n).map fun x=>(a::b::x.1,x.2) else (dF r (n+1)).map fun x=>(a::b::x.1,x.2)
 | _,_+1=>none
def gZ (K:Co→ByteArray→List UInt8) (f:Fd):List UInt8→Option (Pt×List UInt8)
 | []=>none
 | c::r=>if c≠kU f.co then none else match dF r f.co.str.toNat with
  | none=>none
  | some (k,r1)=>match dQ r1 with
   | none=>none
   | some (s,r2)=>if s.length≤65536∧U.bK ⟨s.toArray⟩<0∧K f.co ⟨s.toArray⟩=k then some (.mk 6 false false .empty ⟨s.toArray⟩ [],r2) else none
def rdP (K:Co→ByteArray→List UInt8) (f:Fd) (l:List UInt8):Option (Pt×List UInt8) :=
 if f.kind=1 then match l with
  | []=>none
  | c::r=>if c≤1 then some (.mk 1 (c==1) false .empty .empty [],r) else none
 else if f.kind=2 then rdNum f l
 else if f.kind=4 then if 16≤l.length then some (.mk 4 false false .empty ⟨(l.take 16).toArray⟩ [],l.drop 16) else none
 else if f.kind=6 then gZ K f l
 else match dQ l with
  | none=>none
  | some (s,r)=>if (s.length:Int)≤f.most∧(f.kind=5→U.bK ⟨s.toArray⟩<0) then some (.mk f.kind false false .empty ⟨s.toArray⟩ [],r) else none
def zU (ps:List Pt):List UInt8→Option (Pt×List UInt8)
 | []=>none
 | c::r=>if c=1 then some (.mk 7 false false .empty .empty ps,r) else none
mutual
def rdF (K:Co→ByteArray→List UInt8):Fd→List UInt8→Option (Pt×List UInt8)
 | .mk n k d u b lb lm hb hm m c l=>fun s =>
  let f:=Fd.mk n k d u b lb lm hb hm m c l
  match s with
  | []=>none
  | t::r =>
   if t=rV f∧u≠0 then some (qU,r)
   else if t≠aAp f then none
   else (if k=7 then (zV K l (flips d r)).bind fun x=>zU x.1 x.2 else rdP K f (flips d r)).map fun x=>(x.1,flips d x.2)
def zV (K:Co→ByteArray→List UInt8):List Fd→List UInt8→Option (List Pt×List UInt8)
 | []=>fun s=>some ([],s)
 | f::r=>fun s=>(rdF K f s).bind fun x=>(zV K r x.2).map fun y=>(x.1::y.1,y.2)
end
def bU (K:Co→ByteArray→List UInt8) (f:Fd) (s:List UInt8):Option (Pt×List UInt8):=if f.kind=7 then (zV K f.fields s).bind fun x=>zU x.1 x.2 else rdP K f s
theorem aQr (K:Co→ByteArray→List UInt8) (f:Fd):rdF K f []=none:=by cases f;rw[rdF]
theorem wL (K:Co→ByteArray→List UInt8) (f:Fd) (t:UInt8) (r:List UInt8):rdF K f (t::r) =
 if t=rV f∧f.aI≠0 then some (qU,r) else if t≠aAp f then none else (bU K f (flips f.down r)).map fun x=>(x.1,flips f.down x.2):=by
 cases f;rw[rdF];rfl
theorem aAv (K:Co→ByteArray→List UInt8) (s:List UInt8):zV K [] s=some ([],s):=by rw[zV]
theorem oQ (K:Co→ByteArray→List UInt8) (f:Fd) (r:List Fd) (s:List UInt8):zV K (f::r) s=(rdF K f s).bind fun x=>(zV K r x.2).map fun y=>(x.1::y.1,y.2):=by rw[zV]
def aEt:List UInt8:=[97,98,99,100,101,102,103,104,105,106,107,108,109,110,111,112,113,114,115,116,117,118,119,120,121,122,48,49,50,51,52,53,54,55,56,57,45]
theorem aXo (c:UInt8):aEt.contains c=rR c:=by
 have key:∀ n:Fin 256,aEt.contains (UInt8.ofNat n)=rR (UInt8.ofNat n):=by decide +kernel
 have:=key ⟨c.toNat,c.toNat_lt⟩;simpa using this
theorem aSr {p:UInt8→Bool} (l:List UInt8):l.dropWhile p=[]↔l.all p=true:=by
 induction l with
 | nil=>simp
 | cons c r ih =>
  by_cases h:p c=true
  · simp[h,ih]
  · simp[h]
theorem aSs {p:UInt8→Bool} (l:List UInt8):(l.dropWhile p).all p=l.all p:=by
 induction l with
 | nil=>rfl
 | cons c r ih =>
  by_cases h:p c=true
  · simp[h,ih]
  · simp[h]
theorem aSt (l:List UInt8):Lib.trimS l aEt=[]↔l.all rR=true:=by
 have hp:(fun c=>aEt.contains c)=rR:=funext aXo;unfold Lib.trimS Lib.trimLeftS Lib.trimRightS;rw[aSr,List.all_reverse,aSs,List.all_reverse,hp]
theorem lS (c:UInt8) (r:List UInt8):kM (c::r)=(decide ((c::r).length≤16)&&decide (97≤c∧c≤122)&&(c::r).all rR):=rfl
theorem aMw (p:ByteArray) (w:World) (hp:p.size≤9223372036854775807) :
 Calls prog 104 #[.string p,.string ⟨#[97,98,99,100,101,102,103,104,105,106,107,108,109,110,111,112,113,114,115,116,117,118,119,120,121,122,48,49,50,51,52,53,54,55,56,57,45]⟩] w fun e w'=>∃ q:ByteArray,e=.returned (.string q)∧Hid (q.toList=Lib.trimS p.toList aEt)∧Below w.heap.size w w' :=
 (Any.strings_Trim_laid Tryz.lays160 (by kernel_rfl) p ⟨#[97,98,99,100,101,102,103,104,105,106,107,108,109,110,111,112,113,114,115,116,117,118,119,120,121,122,48,49,50,51,52,53,54,55,56,57,45]⟩ w hp (by decide) (ascii_of_all (by decide))).mono fun _ _ ⟨he,hb⟩ =>
  ⟨_,he,by show ByteArray.toList _=_;rw[ByteArray.toList_mk,Lib.toList_data];rfl,hb⟩
theorem aMx (s:ByteArray) (hs:s.size≤140737488351232) (w:World):Calls prog 81 #[.string s] w fun e w'=>e=.returned (.bool (kM s.toList))∧Below w.heap.size w w':=by
 have hsz:=V.aD s;by_cases h0:s.size=0
 · have hl:s.toList=[]:=List.eq_nil_of_length_eq_zero (by omega);have hn:kM s.toList=false:=by rw[hl];rfl
   have q1:s.toList.isEmpty=true:=by rw[hl];rfl
   rw[hn];go_enter func81,ntmps81;go_wp2_with fail;go_ret;exact⟨rfl,zr⟩
 have q1:s.toList.isEmpty=false:=by
  cases h:s.toList with
  | nil=>rw[h] at hsz;exact absurd hsz.symm h0
  | cons=>rfl
 by_cases h16:16<s.size
 · have q2:decide ((16:Int)<(s.size:Int))=true:=decide_eq_true (by omega);have hn:kM s.toList=false:=by
    cases h:s.toList with
    | nil=>rfl
    | cons c r =>
     rw[h] at hsz;rw[lS,decide_eq_false (by omega:¬ (c::r).length≤16)];rfl
   rw[hn];go_enter func81,ntmps81;go_wp2_with fail;go_ret;exact⟨rfl,zr⟩
 have q2:decide ((16:Int)<(s.size:Int))=false:=decide_eq_false (by omega);obtain⟨c,hc⟩:∃ c,s[0]=c:=⟨_,rfl⟩
 have hcl:∃ r,s.toList=c::r:=by
  have:=tK s (by omega);cases h:s.toList with
  | nil=>rw[h] at hsz;exact absurd hsz.symm h0
  | cons d r=>rw[h] at this;simp only [List.head?_cons,Option.some.injEq] at this;exact⟨r,by rw[this,hc]⟩
 have hpos:0<s.size:=by omega
 obtain⟨r,hcr⟩:=hcl;have h97:(97:UInt8).toNat=97:=rfl;have h122:(122:UInt8).toNat=122:=rfl;by_cases hlo:c.toNat<97
 · have q3:decide ((c.toNat:Int)<97)=true:=decide_eq_true (by omega);have hn:kM s.toList=false:=by
    rw[hcr,lS,decide_eq_false (p:=97≤c∧c≤122) (fun h=>by have h1:(97:UInt8).toNat≤c.toNat:=h.1;omega)];simp
   rw[hn];go_enter func81,ntmps81;go_wp2_with fail;go_ret;exact⟨rfl,zr⟩
 have q3:decide ((c.toNat:Int)<97)=false:=decide_eq_false (by omega);by_cases hhi:122<c.toNat
 · have q4:decide (122<(c.toNat:Int))=true:=decide_eq_true (by omega);have hn:kM s.toList=false:=by
    rw[hcr,lS,decide_eq_false (p:=97≤c∧c≤122) (fun h=>by have h1:c.toNat≤(122:UInt8).toNat:=h.2;omega)];simp
   rw[hn];go_enter func81,ntmps81;go_wp2_with fail;go_ret;exact⟨rfl,zr⟩
 have q4:decide (122<(c.toNat:Int))=false:=decide_eq_false (by omega);have hn:kM s.toList=s.toList.all rR:=by
  rw[hcr,lS,decide_eq_true (p:=97≤c∧c≤122) ⟨by show (97:UInt8).toNat≤c.toNat;omega,by show c.toNat≤(122:UInt8).toNat;omega⟩,decide_eq_true (by rw[← hcr];omega:(c::r).length≤16)];rfl
 rw[hn];have HT:=zh (aSt s.toList);clear hn hcr h97 h122;go_enter func81,ntmps81;go_wp2_with (first | (go_at_call 104;refine(aMw s _ (by omega)).mono ?_;rintro e w1 ⟨q,rfl,hq,hb⟩;have HQ:=zh hb));go_ret;refine⟨?_,HQ.out⟩;congr 2
 rw[hq.out];cases h:s.toList.all rR with
 | true=>rw[HT.out.2 h];rfl
 | false =>
  cases h2:Lib.trimS s.toList aEt with
  | nil=>rw[HT.out.1 h2] at h;cases h
  | cons=>rfl
theorem dN (nm:ByteArray) (k:Nat) (dn:Bool) (nu:Nat) (bd lb:Bool) (lm:ByteArray) (hb:Bool) (hm:ByteArray) (mo st:Int) (sh bk:Bool) (fs:List Fd) (v:Value) :
 Value.agg (aR (.mk nm k dn nu bd lb lm hb hm mo ⟨st,sh,bk⟩ fs) v).toArray=.agg #[.string nm,.int .u8 k,.bool dn,.int .u8 nu,.bool bd,.bool lb,.string lm,.bool hb,.string hm,.int .i64 mo,.int .i64 st,.bool sh,.bool bk,v]:=rfl
theorem aJk (f:Fd) (v:Value) (hv:∃ a n c,v=.slice a n c) (w:World):Calls prog 142 #[.agg (aR f v).toArray] w fun e w'=>e=.returned (.bool (decide (f.most<0∨65536<f.most)))∧Below w.heap.size w w':=by
 obtain⟨a,n,c,rfl⟩:=hv;obtain⟨nm,k,dn,nu,bd,lb,lm,hb,hm,mo,⟨st,sh,bk⟩,fs⟩:=f;rw[dN];show Calls _ _ _ _ fun e w'=>e=.returned (.bool (decide (mo<0∨65536<mo)))∧_
 rw[Bool.decide_or];go_enter func142,ntmps142;go_wp2_with fail;all_goals
  go_ret;exact⟨by simp[*],zr.alloc lr _⟩
theorem aJl (f:Fd) (v:Value) (hv:∃ a n c,v=.slice a n c) (w:World):Calls prog 145 #[.agg (aR f v).toArray] w fun e w'=>e=.returned (.bool (!decide f.co.ok))∧Below w.heap.size w w':=by
 obtain⟨a,n,c,rfl⟩:=hv;obtain⟨nm,k,dn,nu,bd,lb,lm,hb,hm,mo,⟨st,sh,bk⟩,fs⟩:=f;rw[dN];show Calls _ _ _ _ fun e w'=>e=.returned (.bool (!decide (1≤st∧st≤4∧(st=4→sh=true))))∧_
 cases sh;all_goals
  go_enter func145,ntmps145;go_wp2_with fail
 all_goals
  go_ret;refine⟨congrArg (fun b=>Ending.returned (.bool b)) ?_,(zr.alloc lr _).alloc (by simp) _⟩;rw[Bool.eq_iff_iff];simp;try omega
theorem aMy (f:Fd) (v:Value) (hv:∃ a n c,v=.slice a n c) (hf:jY f) (w:World):Calls prog 139 #[.agg (aR f v).toArray] w fun e w'=>e=.returned (.bool (wJ f))∧Below w.heap.size w w':=by
 obtain⟨a,n,c,rfl⟩:=hv;obtain⟨nm,k,dn,nu,bd,lb,lm,hb,hm,mo,⟨st,sh,bk⟩,fs⟩:=f;rw[dN];have h1:lm.size≤9223372036854775807:=by have:=hf.a;simp only [Fd.eG] at this;omega
 have h2:hm.size≤9223372036854775807:=by have:=hf.b;simp only [Fd.him] at this;omega
 obtain⟨X,hX⟩:∃ X,wJ (.mk nm k dn nu bd lb lm hb hm mo ⟨st,sh,bk⟩ fs)=X:=⟨_,rfl⟩
 rw[hX];have hX2:(if bd then !(iJ lb lm.toList==0&&iJ hb hm.toList==0&&decide (wE lb lm.toList hb hm.toList≤0)) else lb || !lm.toList.isEmpty || hb || !hm.toList.isEmpty)=X:=hX;clear hX hf;cases bd
 · rw[if_neg (by decide)] at hX2;go_enter func139,ntmps139;go_wp2_with fail;all_goals
    go_ret;refine⟨congrArg (fun b=>Ending.returned (.bool b)) ?_,zr.alloc lr _⟩;subst hX2;simp_all
 · rw[if_pos rfl] at hX2;by_cases ha:iJ lb lm.toList=0
   · by_cases hb2:iJ hb hm.toList=0
     · have hX3:decide (0<wE lb lm.toList hb hm.toList)=X:=by
        rw[← hX2,ha,hb2,Bool.eq_iff_iff];simp
       obtain⟨r,hr⟩:∃ r,wE lb lm.toList hb hm.toList=r:=⟨_,rfl⟩
       rw[hr] at hX3;clear hX2;subst hX3;go_enter func139,ntmps139;go_wp2_with (go_at_call 50;refine(mU lb lm hb hm _ ha hb2 _ hr).mono ?_;rintro e w1 ⟨rfl,hb1⟩;have HB:=zh hb1);go_ret;exact⟨rfl,(zr.alloc lr _).trans (HB.out.mono (by simp))⟩
     · have hX3:true=X:=by
        rw[← hX2,ha,show (iJ hb hm.toList==0)=false by simpa using hb2];rfl
       obtain⟨r,hr⟩:∃ r,iJ hb hm.toList=r:=⟨_,rfl⟩
       rw[hr] at hb2;have q1:(r != 0)=true:=by simpa using hb2
       subst hX3;go_enter func139,ntmps139;go_wp2_with (go_at_call 50;refine(zW lb lm hb hm _ h1 h2 r (.inr ⟨ha,hr,hb2⟩)).mono ?_;rintro e w1 ⟨rfl,hb1⟩;have HB:=zh hb1);go_ret;exact⟨rfl,(zr.alloc lr _).trans (HB.out.mono (by simp))⟩
   · have hX3:true=X:=by
      rw[← hX2,show (iJ lb lm.toList==0)=false by simpa using ha];rfl
     obtain⟨r,hr⟩:∃ r,iJ lb lm.toList=r:=⟨_,rfl⟩
     rw[hr] at ha;have q1:(r != 0)=true:=by simpa using ha
     subst hX3;go_enter func139,ntmps139;go_wp2_with (go_at_call 50;refine(zW lb lm hb hm _ h1 h2 r (.inl ⟨hr,ha⟩)).mono ?_;rintro e w1 ⟨rfl,hb1⟩;have HB:=zh hb1);go_ret;exact⟨rfl,(zr.alloc lr _).trans (HB.out.mono (by simp))⟩
theorem aSu (x:Array Value) (w:World):Calls prog 136 #[.agg x] w fun e w'=>e=.returned (.bool false)∧Below w.heap.size w w':=by
 go_enter func136,ntmps136;go_wp2_with fail;go_ret;exact⟨rfl,by first | exact Below.refl _ _ | exact zr.alloc lr _⟩
def aEu:Array Value:=#[
 .string ⟨#[98,111,111,108]⟩,.func (.func 136) #[] #[],.func (.func 137) #[] #[],.func (.func 138) #[] #[],
 .string ⟨#[105,110,116]⟩,.func (.func 139) #[] #[],.func (.func 140) #[] #[],.func (.func 141) #[] #[],
 .string ⟨#[98,121,116,101,115]⟩,.func (.func 142) #[] #[],.func (.func 143) #[] #[],.func (.func 144) #[] #[],
 .string ⟨#[105,100]⟩,.func (.func 136) #[] #[],.func (.func 137) #[] #[],.func (.func 138) #[] #[],
 .string ⟨#[110,97,109,101]⟩,.func (.func 142) #[] #[],.func (.func 143) #[] #[],.func (.func 144) #[] #[],
 .string ⟨#[116,101,120,116]⟩,.func (.func 145) #[] #[],.func (.func 146) #[] #[],.func (.func 147) #[] #[],
 .string ⟨#[116,117,112,108,101]⟩,.func (.func 136) #[] #[],.func (.func 137) #[] #[],.func (.func 138) #[] #[]]
theorem aSv (w:World):Calls prog 105 #[] w fun e w'=>e=.returned (.slice (some ⟨w.heap.size,0,none⟩) 7 7)∧w'=w.alloc (.cells aEu 246):=by
 go_enter func105,ntmps105;go_wp2_with fail;go_ret;exact⟨rfl,rfl⟩
theorem gM (w:World):Calls prog 105 #[] w fun e w'=>e=.returned (.slice (some ⟨w.heap.size,0,none⟩) 7 7)∧Below w.heap.size w w'∧∀ j,w'.cell? ⟨w.heap.size,j,none⟩=aEu[j]? :=
 (aSv w).mono fun e w' ⟨he,hw⟩=>⟨he,by rw[hw];exact zr.alloc lr _,fun j=>by rw[hw];simp⟩
def bEs (k:Nat):Nat:=if k=2 then 139 else if k=3∨k=5 then 142 else if k=6 then 145 else 136
def wM (f:Fd):Bool:=if f.kind=2 then wJ f else if f.kind=3∨f.kind=5 then decide (f.most<0∨65536<f.most) else if f.kind=6 then !decide f.co.ok else false
theorem aSw (f:Fd) (v:Value) (hv:∃ a n c,v=.slice a n c) (hf:jY f) (w:World):Calls prog (bEs f.kind) #[.agg (aR f v).toArray] w fun e w'=>e=.returned (.bool (wM f))∧Below w.heap.size w w':=by
 unfold bEs wM;split
 · exact aMy f v hv hf w
 · split
   · exact aJk f v hv w
   · split
     · exact aJl f v hv w
     · exact aSu _ w
def jN (k nu:Nat) (bd lb:Bool) (lm:ByteArray) (hb:Bool) (hm:ByteArray) (mo:Int) (co:Co) (fs:List Fd) (Y:Bool):Bool :=
 if k<1∨7<k∨2<nu then true
 else if (k≠2∧(bd || lb || !lm.toList.isEmpty || hb || !hm.toList.isEmpty)=true)∨(¬ (k=3∨k=5)∧mo≠0)∨(k≠6∧Co.zero co=false)∨(k≠7∧fs≠[]) then true else Y
theorem aQs (f:Fd):yD f=jN f.kind f.aI f.bnd f.eX f.eG f.hib f.him f.most f.co f.fields (wM f):=rfl
def nM (X:Bool) (w:World) (e:Ending) (w':World):Prop:=e=.returned (.bool X)∧Below w.heap.size w w'
theorem aA (w:World) (cs:Array Value) (t:TypeId) (i:Nat):(w.alloc (.cells cs t)).cell? ⟨w.heap.size,i,none⟩=cs[i]?:=by simp
end Sc
namespace V
def rY (n:Int) (w:World) (e:Ending) (w':World):Prop:=∃ b,w.heap.size≤b∧e=.returned (.tuple #[.nilIface,.iface 39 (.pointer (some ⟨b,0,none⟩))])∧aC w' b 44 #[.int .i64 n,.int .i64 0,.slice none 0 0,.nilIface]∧Below w.heap.size w w'
theorem oU (p:Pt) (v:Value) (k:Nat) (w:World) {W:World} {lo hi:Nat} (hk:k≤7) (hv:VI W lo hi p v) (hne:p.kind≠k):Calls prog 49 #[v,.int .u8 k] w (rY 4 w):=by
 have q1:decide ((7:Int)<(k:Int))=false:=decide_eq_false (by omega);by_cases h0:p.kind=0
 · obtain rfl:=hv.mP h0;have q2:((0:Int) != (k:Int))=true:=by simp;omega
   clear hk hv hne h0;go_enter func49,ntmps49;go_wp2_with fail;go_ret2
   exact⟨w.heap.size,Nat.le_refl _,rfl,aC.new _ _ _,zr.alloc lr _⟩
 · obtain⟨T,V,f,rfl,m1,r1,c1⟩:=hv.kindOf h0;have q2:((p.kind:Int) != (k:Int))=true:=by simp;omega
   have C1:=zh c1;clear hk hv hne h0 c1;go_enter func49,ntmps49;go_wp2_with fail;refine(C1.out _).mono ?_;rintro e w1 ⟨rfl,hb1⟩;go_wp2_with fail;go_ret2
   exact⟨w1.heap.size,hb1.size,rfl,aC.new _ _ _,two hb1 (zr.alloc lr _)⟩
theorem jS (p:Pt) (v:Value) (w:World) {W:World} {lo hi:Nat} (hk:p.kind≤7) (hv:VI W lo hi p v):Calls prog 49 #[v,.int .u8 p.kind] w fun e w'=>e=.returned (.tuple #[v,.nilIface])∧Below w.heap.size w w':=by
 have q1:decide ((7:Int)<(p.kind:Int))=false:=decide_eq_false (by omega);by_cases h0:p.kind=0
 · obtain rfl:=hv.mP h0;have q2:((0:Int) != (p.kind:Int))=false:=by simp;omega
   clear hk hv h0;go_enter func49,ntmps49;go_wp2_with fail;go_ret2
   exact⟨rfl,zr⟩
 · obtain⟨T,V,f,rfl,m1,r1,c1⟩:=hv.kindOf h0;have q2:((p.kind:Int) != (p.kind:Int))=false:=by simp
   have C1:=zh c1;clear hk hv h0 c1;go_enter func49,ntmps49;go_wp2_with fail;refine(C1.out _).mono ?_;rintro e w1 ⟨rfl,hb1⟩;go_wp2_with fail;go_ret2
   exact⟨rfl,hb1⟩
end V
namespace Lo
def dgV (c:UInt8):Int:=if 48≤c.toNat∧c.toNat≤57 then (c.toNat:Int)-48 else bits .or .u8 (c.toNat:Int) 32-87
def iL (l:List UInt8):Int:=l.foldl (fun n c=>n*16+dgV c) 0
theorem aSx (l:List UInt8) (c:UInt8):iL (l++[c])=iL l*16+dgV c:=by unfold iL;rw[List.foldl_append];rfl
theorem aEv (l:List UInt8) (k:Nat) (h:k<l.length):iL (l.take (k+1))=iL (l.take k)*16+dgV l[k]:=by
 rw[List.take_add_one,List.getElem?_eq_getElem h,Option.toList_some,aSx]
def aDx:List UInt8→Int
 | []=>0
 | c::r=>if c=43 then iL r else if c=45 then-iL r else iL (c::r)
def nS (M:Int) (bs:List UInt8) (e:Ending):Prop :=
 (∃ a:Int,e=.returned (.tuple #[.int .u64 a,.nilIface])∧0≤a∧a≤M∧a=iL bs) ∨
 ∃ a k:Int,e=.returned (.tuple #[.int .u64 a,.iface 275 (.int .i64 k)])∧((k=1∧a=M)∨(k=2∧a=0))
theorem nS.ok {M a:Int} {bs:List UInt8} (h0:0≤a) (h1:a≤M) (h:a=iL bs):nS M bs (.returned (.tuple #[.int .u64 a,.nilIface])):=.inl ⟨a,rfl,h0,h1,h⟩
theorem nS.far {M:Int} {bs:List UInt8}:nS M bs (.returned (.tuple #[.int .u64 M,.iface 275 (.int .i64 1)])):=.inr ⟨M,1,rfl,.inl ⟨rfl,rfl⟩⟩
theorem nS.bad {M:Int} {bs:List UInt8}:nS M bs (.returned (.tuple #[.int .u64 0,.iface 275 (.int .i64 2)])):=.inr ⟨0,2,rfl,.inr ⟨rfl,rfl⟩⟩
def aQt (k:IntKind) (ok:Int→Prop) (e:Ending):Prop :=
 (∃ a:Int,e=.returned (.tuple #[.int k a,.nilIface])∧D.aF a∧ok a)∨∃ (a:Int) (T:TypeId) (V:Value),e=.returned (.tuple #[.int k a,.iface T V])∧D.aF a
end Lo
namespace Ta
open Lo (iL aDx)
open We (lF)
def El.inW (x:El):Prop:=(0≤x.p∧x.p≤65535)∧(0≤x.s∧x.s≤65535)∧(0≤x.t∧x.t≤65535)
def eY:Tm:=⟨fun _=>none,fun _=>0⟩
def aBm (T:Tm) (ps:List Int) (es:List El):Tm:=⟨fun l=>if l=ps then some es else T.ent l,fun x=>if x=ps.getD 0 0 then max (T.long x) ps.length else T.long x⟩
theorem aEw:lF eY where
 none:=rfl
 long:=fun x=>⟨Int.le_refl 0,show (0:Int)≤8 by decide⟩
 few:=fun l es h=>by cases (show (none:Option (List El))=some es from h)
 fits:=fun l es h=>by cases (show (none:Option (List El))=some es from h)
theorem aQu {T:Tm} (h:lF T) {ps:List Int} {es:List El} (h1:ps≠[]) (h2:ps.length≤8) (h3:es.length≤16) (h4:∀ x∈es,x.inW):lF (aBm T ps es) where
 none:=by
  show (if []=ps then some es else T.ent [])=none
  rw[if_neg (fun e=>h1 e.symm)];exact h.none
 long:=fun x=>by
  show 0≤(if x=ps.getD 0 0 then max (T.long x) ps.length else T.long x)∧(if x=ps.getD 0 0 then max (T.long x) ps.length else T.long x)≤8
  have:=h.long x;split<;>omega
 few:=fun l e he=>by
  have he':(if l=ps then some es else T.ent l)=some e:=he;split at he'
  · cases he';exact h3
  · exact h.few l e he'
 fits:=fun l e he=>by
  have he':(if l=ps then some es else T.ent l)=some e:=he;split at he'
  · cases he';exact h4
  · exact h.fits l e he'
def nT (x:ByteArray):El:=⟨x.data.toList.getD 1 0==42,iL (x.extract 2 6).data.toList,iL (x.extract 7 11).data.toList,iL (x.extract 12 16).data.toList⟩
def iI:Nat→ByteArray→List El
 | 0,_=>[]
 | n+1,s=>nT (s.extract 0 17)::iI n (s.extract 17 s.size)
theorem aBn (n:Nat) (s:ByteArray):(iI n s).length=n:=by
 induction n generalizing s with
 | zero=>rfl
 | succ n ih=>rw[iI,List.length_cons,ih]
def aMz (s:ByteArray):ByteArray:=⟨(Lib.cut s.data.toList [59]).1.toArray⟩
def aJm (s:ByteArray):ByteArray:=⟨(Lib.cut s.data.toList [59]).2.1.toArray⟩
def bL (sep:UInt8) (s:ByteArray):List ByteArray:=Lib.splitB ⟨#[sep]⟩ 0 (Lib.countB s ⟨#[sep]⟩) s
def kV (s:ByteArray):List Int:=(bL 32 (aMz s)).map fun p=>aDx p.data.toList
def nN (s:ByteArray):List El:=iI ((aJm s).size / 17) (aJm s)
def blank (s:ByteArray):Bool:=s.size==0 || s.data.toList.getD 0 0==35
def stepT (T:Tm) (s:ByteArray):Tm:=if blank s then T else aBm T (kV s) (nN s)
def aGs (a:ByteArray):Tm:=(bL 10 a).foldl stepT eY
theorem kW (c:UInt8) (s:ByteArray):(bL c s).length=Lib.countB s ⟨#[c]⟩+1:=Lib.splitB_all ⟨#[c]⟩ (Nat.le_refl 1) 0 _ s rfl
theorem gI (c:UInt8) (s:ByteArray):(bL c s).length≤s.size+1:=by
 rw[kW];have:=Lib.countB_le ⟨#[c]⟩ (Nat.le_refl 1) s.size s lr;omega
theorem bI (c:UInt8) (s:ByteArray):∀ p∈bL c s,p.size≤s.size:=by
 have key:∀ (k:Nat) (s:ByteArray),∀ p∈Lib.splitB ⟨#[c]⟩ 0 k s,p.size≤s.size:=by
  intro k;induction k with
  | zero=>intro s p hp;rw[Lib.splitB_zero,List.mem_singleton] at hp;rw[hp];exact Nat.le_refl _
  | succ k ih =>
   intro s p hp;rcases Lib.indexB_cases s ⟨#[c]⟩ with hix | ⟨i,hix,hroom⟩
   · rw[Lib.splitB_miss _ _ _ _ hix,List.mem_singleton] at hp;rw[hp];exact Nat.le_refl _
   · rw[Lib.splitB_hit _ _ _ _ i hix] at hp;rcases List.mem_cons.1 hp with rfl | hp
     · rw[ByteArray.size_extract];omega
     · have:=ih _ p hp;rw[ByteArray.size_extract] at this;omega
 exact key _ s
def aAw:ByteArray:=⟨#[48,48,54,49,59,91,46,49,48,48,48,46,48,48,50,48,46,48,48,48,50,93,10,48,48,52,49,59,91,46,49,48,48,48,46,48,48,50,48,46,48,48,48,56,93]⟩
def aJn:Tm:=aBm (aBm eY [97] [⟨false,4096,32,2⟩]) [65] [⟨false,4096,32,8⟩]
theorem aJo:aGs aAw=aJn:=by
 have h:bL 10 aAw=[⟨#[48,48,54,49,59,91,46,49,48,48,48,46,48,48,50,48,46,48,48,48,50,93]⟩,⟨#[48,48,52,49,59,91,46,49,48,48,48,46,48,48,50,48,46,48,48,48,56,93]⟩]:=by decide +kernel
 have p1:kV ⟨#[48,48,54,49,59,91,46,49,48,48,48,46,48,48,50,48,46,48,48,48,50,93]⟩=[97]:=by decide +kernel
 have p2:kV ⟨#[48,48,52,49,59,91,46,49,48,48,48,46,48,48,50,48,46,48,48,48,56,93]⟩=[65]:=by decide +kernel
 have e1:nN ⟨#[48,48,54,49,59,91,46,49,48,48,48,46,48,48,50,48,46,48,48,48,50,93]⟩=[⟨false,4096,32,2⟩]:=by decide +kernel
 have e2:nN ⟨#[48,48,52,49,59,91,46,49,48,48,48,46,48,48,50,48,46,48,48,48,56,93]⟩=[⟨false,4096,32,8⟩]:=by decide +kernel
 have b1:blank ⟨#[48,48,54,49,59,91,46,49,48,48,48,46,48,48,50,48,46,48,48,48,50,93]⟩=false:=by decide +kernel
 have b2:blank ⟨#[48,48,52,49,59,91,46,49,48,48,48,46,48,48,50,48,46,48,48,48,56,93]⟩=false:=by decide +kernel
 unfold aGs;rw[h];simp only [List.foldl_cons,List.foldl_nil,stepT,b1,b2,p1,p2,e1,e2,Bool.false_eq_true,if_false];rfl
theorem aGt (c:UInt8):bL c ⟨#[]⟩=[⟨#[]⟩]:=by
 have h:Lib.countB ⟨#[]⟩ ⟨#[c]⟩=0:=Nat.eq_zero_of_le_zero (Lib.countB_le ⟨#[c]⟩ (Nat.le_refl 1) 0 ⟨#[]⟩ lr);unfold bL;rw[h];rfl
theorem yF:aGs ⟨#[]⟩=eY:=by
 unfold aGs;rw[aGt];rfl
