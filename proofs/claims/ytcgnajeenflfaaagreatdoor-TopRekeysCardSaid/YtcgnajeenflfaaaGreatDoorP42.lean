import Derived.Test.YtcgnajeenflfaaaGreatDoorP3
import Derived.Test.YtcgnajeenflfaaaGreatDoorP38
import Derived.Test.YtcgnajeenflfaaaGreatDoorP7
set_option maxRecDepth 100000
set_option maxHeartbeats 4000000
set_option linter.all false
open Go.Proofs.Tryz Go.RowKit
namespace Go.Proofs.YtcgnajeenflfaaaGreatDoor
namespace Rk
open V (keeps)
theorem aLn (p q:Addr) (w:World) :
 CallsD prog 57 #[.pointer (some p),.pointer (some q)] .returning w fun e u' w'=>e=.returned (.tuple #[])∧u'=.returning∧w'=w:=by
 refine callsD_of_wpS func57 rfl fun c₀ cs hu=>?_
 apply wpS_seq;apply wpS_region;simp[wpOpsS,go_sem,recoverD,hu,ntmps57,Exit.thenS];rw[show Array.replicate 2 undef=#[undef,undef] from rfl];simp;refine wpS_of_wp (Code.wp_mono (fun e a' w' (h:Ends (fun w'=>w'=w) e a' w')=>?_) ?_)
 · obtain⟨rfl,hd,rfl⟩:=h;simp[bodyPostS,results,Tryz.results57,hd];cases c₀;simp_all
 have hneq:∀ w:World,(binOp BinOp.neq 20 .nilIface .nilIface).run prog w=.ok (.bool false) w:=fun _=>by kernel_rfl
 go_wp2_with fail;exact⟨rfl,rfl,rfl⟩
theorem bAe (v:Value) (w:World):Calls prog 33 #[.iface 118 v] w fun e w'=>e=.returned (.tuple #[.iface 118 v,.bool true])∧Below w.heap.size w w':=by
 have hta:∀ (v:Value) (w:World),(Instr.typeAssert (.iface 118 v) 34 84 false).run prog w=.ok (.iface 118 v) w:=fun _ _=>by kernel_rfl
 go_enter_defers func33,ntmps33
 go_wp2_with fail;refine leaves_cons (f:=57) (args:=#[.pointer (some ⟨w.heap.size,0,none⟩),.pointer (some ⟨w.heap.size+1,0,none⟩)]) (by simp) (by simp[go_sem]) ?_;refine(aLn _ _ _).mono ?_;rintro e u' w2 ⟨rfl,rfl,rfl⟩;refine⟨.tuple #[.iface 118 v,.bool true],?_,rfl,(zr.alloc lr _).alloc (by simp) _⟩;simp[results,Tryz.results33,go_sem]
theorem bAf (n:Int) (g:Nat) (w:World) (hg:w.cell? ⟨1,0,none⟩=some (.iface 197 (.agg #[.pointer (some ⟨11,36,none⟩)]))) (hb:aC w g 41 #[.int .i64 0]) :
 Calls prog 42 #[.iface 41 (.int .i64 n),.iface 145 (.pointer (some ⟨g,0,none⟩))] w fun ev w'=>ev=.returned (.bool true)∧aC w' g 41 #[.int .i64 n]∧Xv (· = g) w w':=by
 refine(aHq n ⟨g,0,none⟩ (.int .i64 0) w hg (by simpa using hb.cell 0) (hb.frozen 0)).mono ?_;rintro ev w' ⟨rfl,rfl⟩;have al:∀ {A:World} {k:Nat} {t:TypeId} {cs:Array Value} (o:Obj),aC A k t cs→aC (A.alloc o) k t cs:=fun o h=>aC.below h (zr.alloc lr o) h.lt
 exact⟨rfl,by simpa using (al _ (al _ (al _ (al _ hb)))).aU 0 (.int .i64 n),((((((Xv.refl (· = g) w).alloc _).alloc _).alloc _).alloc _).aU (fun _=>rfl) 0 _)⟩
def bAg (v:Value):Prop:=(∃ n:Int,v=.iface 41 (.int .i64 n))∨∃ u,v=.iface 347 u
theorem bDw (er:Value) (w:World) (he:bAg er) (hg:w.cell? ⟨1,0,none⟩=some (.iface 197 (.agg #[.pointer (some ⟨11,36,none⟩)]))) :
 Calls prog 35 #[er] w fun e w'=>(∃ x,e=.returned x∧(x=.nilIface∨∃ T V,x=.iface T V))∧Below w.heap.size w w':=by
 have hb0:=(Below.refl w.heap.size w).alloc lr (.cells #[.int .i64 0] 41);have hg2:=keeps hb0 hg;obtain⟨W,hW⟩:∃ W,w.alloc (.cells #[.int .i64 0] 41)=W:=⟨_,rfl⟩
 have hc:W.cell? ⟨w.heap.size,0,none⟩=some (.int .i64 0):=by rw[← hW];simp
 rw[hW] at hb0 hg2;have hk:aC W w.heap.size 41 #[.int .i64 0]:=by rw[← hW];exact aC.new w _ _
 rcases he with ⟨n,rfl⟩ | ⟨u,rfl⟩
 · have HC:=zh (bAf n w.heap.size W hg2 hk);have HB:=zh hb0;clear hg hg2 hb0 hk;have hlt:w.heap.size<W.heap.size:=World.block_lt_of_cell? W _ hc;go_enter func35,ntmps35;go_wp2_with fail;refine HC.out.mono ?_;rintro e w1 ⟨rfl,hk,hx⟩;have c1:w1.cell? ⟨w.heap.size,0,none⟩=some (.int .i64 n):=by simpa using hk.cell 0
   have HB1:=zh (HB.out.trans (hx.below (B:=w.heap.size) (fun k h e=>by omega) HB.out.size));clear hk hx;go_wp2_with fail;go_ret;exact⟨⟨_,rfl,.inr ⟨_,_,rfl⟩⟩,HB1.out⟩
 · have HC:=zh (bDe u ⟨w.heap.size,0,none⟩ W hg2);have HB:=zh hb0;clear hg hg2 hb0 hk hc;go_enter func35,ntmps35;go_wp2_with fail;refine HC.out.mono ?_;rintro e w1 ⟨rfl,hb1⟩;have HB1:=zh (HB.out.trans (hb1.mono HB.out.size));clear hb1;go_wp2_with fail;go_ret;exact⟨⟨_,rfl,.inl rfl⟩,HB1.out⟩
open V
def xD (w:World):Prop:=∃ u,w.cell? ⟨0,0,none⟩=some (.iface 347 u)
theorem xD.later {w w':World} (h:xD w) (hb:Below w.heap.size w w'):xD w':=by
 obtain⟨u,h⟩:=h;exact⟨u,keeps hb h⟩
def sP (B:Nat) (r:Option Pt) (w:World) (e:Ending) (w':World):Prop :=
 (match r with
  | some q=>∃ u lo hi,e=.returned (.tuple #[u,.nilIface])∧VI w' lo hi q u∧hi≤w'.heap.size∧(hi≤B∨w.heap.size≤lo)
  | none=>∃ er,e=.returned (.tuple #[.nilIface,er])∧bAg er)∧Below w.heap.size w w'
theorem sP.yes {B lo hi:Nat} {r:Option Pt} {q:Pt} {u:Value} {w w':World} (h:r=some q) (hv:VI w' lo hi q u) (h1:hi≤w'.heap.size) (h2:hi≤B∨w.heap.size≤lo) (hb:Below w.heap.size w w'):sP B r w (.returned (.tuple #[u,.nilIface])) w':=by
 rw[h];exact⟨⟨u,lo,hi,rfl,hv,h1,h2⟩,hb⟩
theorem sP.no {B:Nat} {r:Option Pt} {er:Value} {w w':World} (h:r=none) (he:bAg er) (hb:Below w.heap.size w w'):sP B r w (.returned (.tuple #[.nilIface,er])) w':=by
 rw[h];exact⟨⟨er,rfl,he⟩,hb⟩
theorem vi7 {w:World} {B:Nat} {p:Pt} {v:Value} (hv:VI w 0 B p v) (h7:p.kind=7):∃ (a:Option Addr) (cap:Nat) (F:Nat→Value),v=.iface 118 (.agg #[.slice a p.items.length cap]) ∧
 (∀ j,j<p.items.length→∃ g,a=some ⟨g,0,none⟩∧g<B∧w.cell? ⟨g,j,none⟩=some (F j))∧∀ j (h:j<p.items.length),VI w 0 B p.items[j] (F j):=by
 cases hv with
 | null _ h=>omega
 | truth _ h=>omega
 | whole _ h=>omega
 | row _ _ _ _ h=>omega
 | tuple _ _ a cap F hc cells deep=>exact⟨a,cap,F,rfl,fun j hj=>let ⟨g,h1,_,h2,h3⟩:=cells j hj;⟨g,h1,h2,h3⟩,deep⟩
theorem bAh (p:Pt) (v:Value) (f:Int) (q:Pt) (qv:Value) (B:Nat) (w:World) (h7:p.kind=7) (hm:aL p=true) (hB:B≤w.heap.size) (hv:VI w 0 B p v) (hf:Fit q) (hq:PI w 0 w.heap.size q.items qv) (hg:xD w) :
 Calls prog 34 #[.agg #[.int .i64 f,.int .u8 q.kind,.bool q.yes,.bool q.neg,.string q.mag,.string q.raw,qv],v] w (sP B (nA p f q) w):=by
 obtain⟨a2,c2,rfl,_,_⟩:=hq.open;obtain⟨a,cap,F,rfl,hcells,aAc⟩:=vi7 hv h7;have hml:=wY hm h7;obtain⟨W,hW⟩:∃ W,w.alloc (.cells #[.int .i64 f,.int .u8 q.kind,.bool q.yes,.bool q.neg,.string q.mag,.string q.raw,.slice a2 q.items.length c2] 59)=W:=⟨_,rfl⟩
 have hB0:Below w.heap.size w W:=by rw[← hW];exact zr.alloc lr _
 have HB0:=zh hB0;have HC:=zh hcells;have HDP:=zh aAc;have HQ:=zh (hq.later hB0);have HF:=zh hf;obtain⟨nu,hnu⟩:=hg.later hB0;have c0:W.cell? ⟨w.heap.size,0,none⟩=some (.int .i64 f):=by rw[← hW];simp
 have hlt:w.heap.size<W.heap.size:=World.block_lt_of_cell? W _ c0;obtain⟨n,hn⟩:∃ n,q.items.length=n:=⟨_,rfl⟩
 obtain⟨m,hpm⟩:∃ m,p.items.length=m:=⟨_,rfl⟩
 have HN:=zh hn;have HPM:=zh hpm;rw[hn] at hW ⊢;rw[hpm] at hml ⊢;have m1:∀ w:World,(method 512 118 (.agg #[.slice a m cap]) "Len").run prog w=.ok (279,.agg #[.slice a m cap]) w:=fun _=>by kernel_rfl
 have m2:∀ w:World,(method 512 118 (.agg #[.slice a m cap]) "At").run prog w=.ok (277,.agg #[.slice a m cap]) w:=fun _=>by kernel_rfl
 clear hq hv hcells aAc hg hf hB0 hn hpm hm h7;by_cases h0:0≤f
 · obtain⟨j,rfl⟩:∃ j:Nat,f=(j:Int):=⟨f.toNat,by omega⟩
   have q1:decide ((0:Int)≤(j:Int))=true:=decide_eq_true (by omega);have HI:=zh (show nA p (j:Int) q=p.items[j]? by simp[nA]);clear h0;go_enter func34,ntmps34;go_wp2_with fail;refine wp_region_held_drew (S:=fun w'=>w'.cell? ⟨w.heap.size,0,none⟩=some (.int .i64 (j:Int))∧Below W.heap.size W w') (by kernel_rfl) ⟨c0,(Below.refl _ W).drew⟩ (fun hHeld=>?_);refine tx 0 ?v0 rfl (by kernel_rfl) tq (by rfl) ?hy0 (by assumption) ?aCd;case hy0=>(rintro wS ⟨k0,kb⟩;go_simp;try with_reducible rfl)
   try simp[Act.put]
   refine tx 1 ?v1 rfl (by kernel_rfl) tq (by rfl) ?hy1 (by assumption) ?aFe;case hy1=>(rintro wS ⟨k0,kb⟩;go_simp;try with_reducible rfl)
   try simp[Act.put]
   refine tx 2 ?v2 rfl (by kernel_rfl) tq (by rfl) ?hy2 (by assumption) ?aCe;case hy2=>(rintro wS ⟨k0,kb⟩;go_simp;try with_reducible rfl)
   try simp[Act.put]
   refine wpAnyH_ready (rs:=[3]) (by kernel_rfl) (by simp) ?_;refine AllReadyH.cons rfl (fun K hK=>?_) AllReadyH.nil;go_simp;obtain⟨k0,kb⟩:=hHeld;refine(fV _ _ _ _).mono ?_;rintro e w1 ⟨rfl,hb1⟩;replace k0:=keeps hb1 k0;replace kb:=two kb hb1;clear hb1;go_wp2_with fail;refine hK.out _ _ ⟨k0,kb⟩ (fun hHeld=>?_);try simp[Act.put]
   refine tx 4 ?v4b rfl (by kernel_rfl) tq (by rfl) ?aXp (by assumption) ?aXq;case aXp=>(rintro wS ⟨k0,kb⟩;go_simp;try with_reducible rfl)
   try simp[Act.put]
   refine wpAnyH_done (by kernel_rfl) ?_ _;obtain⟨k0,kb⟩:=hHeld;have HB1:=zh (HB0.out.trans (kb.mono HB0.out.size));have mX:=zh kb;clear kb;by_cases hjm:j<m
   · have q2:decide ((m:Int)≤(j:Int))=false:=decide_eq_false (by omega);obtain⟨g,rfl,hg,hcj⟩:=HC.out j (by rw[HPM.out];exact hjm);have bMc:=keeps HB1.out hcj;clear hcj;go_wp2_with fail;refine(oN g m cap j (F j) _ (by omega) hjm bMc).mono ?_;rintro e w2 ⟨rfl,hb2⟩;have HB2:=zh (HB1.out.trans (hb2.mono HB1.out.size));clear hb2 bMc;go_wp2_with fail;refine bodyPost_ret (v:=.tuple #[F j,.nilIface]) (by simp[results,Tryz.f34]) rfl ?_;exact .yes (HI.out.trans (List.getElem?_eq_getElem (by rw[HPM.out];exact hjm))) ((HDP.out j (by rw[HPM.out];exact hjm)).same (Same.of_below HB2.out hB)) (Nat.le_trans hB HB2.out.size) (.inl lr) HB2.out
   · have q2:decide ((m:Int)≤(j:Int))=true:=decide_eq_true (by omega);have g1:w1.cell? ⟨0,0,none⟩=some (.iface 347 nu):=keeps mX.out hnu;go_wp2_with fail;go_region;go_wp2_with fail;refine bodyPost_ret (v:=.tuple #[.nilIface,.iface 347 nu]) (by simp[results,Tryz.f34]) rfl ?_;exact .no (HI.out.trans (List.getElem?_eq_none (by rw[HPM.out];omega))) (.inr ⟨_,rfl⟩) HB1.out.drew
 · have q1:decide ((0:Int)≤f)=false:=decide_eq_false h0;have c1:W.cell? ⟨w.heap.size,1,none⟩=some (.int .u8 q.kind):=by rw[← hW];simp
   have c2':W.cell? ⟨w.heap.size,2,none⟩=some (.bool q.yes):=by rw[← hW];simp
   have c3:W.cell? ⟨w.heap.size,3,none⟩=some (.bool q.neg):=by rw[← hW];simp
   have c4:W.cell? ⟨w.heap.size,4,none⟩=some (.string q.mag):=by rw[← hW];simp
   have c5:W.cell? ⟨w.heap.size,5,none⟩=some (.string q.raw):=by rw[← hW];simp
   have c6:W.cell? ⟨w.heap.size,6,none⟩=some (.slice a2 n c2):=by rw[← hW];simp
   have HI:=zh (show nA p f q=if bW q=0∧aW q<16 then some q else none by rw[nA,if_neg h0]);have HM:=zh (aCl q _ W HF.out HQ.out);rw[HN.out] at HM;clear h0;go_enter func34,ntmps34;go_wp2_with fail;refine HM.out.mono ?_;rintro e w1 ⟨u,rfl,h1,h2,hb1⟩;have HB1:=zh (HB0.out.trans (hb1.mono HB0.out.size));by_cases hE:bW q=0
   · have oW:=h2 hE;have HD:=zh (aFr q u w1 (pF hE).2 (by have:=sH hE;omega) (oW.wide (Nat.zero_le _) lr));have HV:=zh oW;have HE:=zh hE;rw[hE];obtain⟨x,hx⟩:∃ x,aW q=x:=⟨_,rfl⟩
     have HX:=zh hx;rw[hx] at HD;clear hE oW h1 h2 hb1 hx c0 c1 c2' c3 c4 c5 c6;go_wp2_with fail;refine HD.out.mono ?_;rintro e w2 ⟨rfl,hb2⟩;have HB2:=zh (HB1.out.trans (hb2.mono HB1.out.size));have HV2:=zh (HV.out.same (Same.of_below hb2 lr));have HBZ:=zh hb2.size;clear hb2;by_cases hx16:x<16
     · have q2:decide ((16:Int)≤(x:Int))=false:=decide_eq_false (by omega);go_wp2_with fail;refine bodyPost_ret (v:=.tuple #[u,.nilIface]) (by simp[results,Tryz.f34]) rfl ?_;exact .yes (by rw[HI.out,if_pos ⟨HE.out,by rw[HX.out];exact hx16⟩]) HV2.out HBZ.out (.inr HB0.out.size) HB2.out
     · have q2:decide ((16:Int)≤(x:Int))=true:=decide_eq_true (by omega);go_wp2_with fail;refine bodyPost_ret (v:=.tuple #[.nilIface,.iface 41 (.int .i64 91)]) (by simp[results,Tryz.f34]) rfl ?_;exact .no (by rw[HI.out,if_neg (fun h=>by have:=h.2;rw[HX.out] at this;omega)]) (.inl ⟨_,rfl⟩) HB2.out
   · have kZ:=zh (show nA p f q=none by rw[HI.out,if_neg (fun h=>hE h.1)]);have h3:=aAa q;obtain⟨E,hEE⟩:∃ E,bW q=E:=⟨_,rfl⟩
     rw[hEE] at hE h3 ⊢;clear h1 h2 hb1 hEE c0 c1 c2' c3 c4 c5 c6;rcases h3 with rfl | rfl | rfl
     · exact absurd rfl hE
     · clear hE;go_wp2_with fail;refine bodyPost_ret (v:=.tuple #[.nilIface,.iface 41 (.int .i64 90)]) (by simp[results,Tryz.f34]) rfl ?_;exact .no kZ.out (.inl ⟨_,rfl⟩) HB1.out
     · clear hE;go_wp2_with fail;refine bodyPost_ret (v:=.tuple #[.nilIface,.iface 41 (.int .i64 91)]) (by simp[results,Tryz.f34]) rfl ?_;exact .no kZ.out (.inl ⟨_,rfl⟩) HB1.out
end Rk
namespace V
theorem VI.one {w:World} {lo hi:Nat} {p:Pt} {v:Value} (h:VI w lo hi p v):v.oneCell'=true:=by cases h<;>rfl
theorem bDx (w:World):(binOp .eql 74 (.slice none 0 0) (.slice none 0 0)).run prog w=.ok (.bool true) w:=by kernel_rfl
theorem bAi (a:Addr) (n cap:Nat) (w:World):(binOp .eql 74 (.slice (some a) n cap) (.slice none 0 0)).run prog w=.ok (.bool false) w:=by kernel_rfl
theorem bHt {w:World} {B g n cap:Nat} {us:List Value} (h:w.ownsRow B 34 1 (.slice (some ⟨g,0,none⟩) n cap) n us) :
 n≤cap∧B≤g∧g<w.heap.size∧∀ j,j<n→∃ u,us[j]?=some u∧w.cell? ⟨g,j,none⟩=some u:=by
 have hlen:=h.1;rcases h.2 with ⟨h',_⟩ | ⟨g',cap',cur,he,hg,hgg,hnc,_⟩
 · simp at h'
 · simp only [Value.slice.injEq,Option.some.injEq,Addr.mk.injEq,and_true,true_and] at he;obtain⟨rfl,rfl⟩:=he;refine⟨hnc,hg,(Array.getElem?_eq_some_iff.1 hgg).1,fun j hj=>⟨us[j]'(by omega),List.getElem?_eq_getElem _,?_⟩⟩;rw[World.ownsRow.cellAt h j (by omega)];exact List.getElem?_eq_getElem _
theorem aVj (w:World):Calls prog 44 #[.slice none 0 0] w fun e w'=>e=.returned (.slice none 0 0)∧Below w.heap.size w w':=by
 have f1:=bDx;go_enter func44,ntmps44;go_wp2_with fail;go_ret;exact⟨rfl,zr⟩
theorem aVk (g n cap:Nat) (us:List Value) (w:World) (B:Nat) (h0:0<n) (hn:n≤1024) (hO:w.ownsRow B 34 1 (.slice (some ⟨g,0,none⟩) n cap) n us) (h1:∀ u∈us,u.oneCell'=true) :
 Calls prog 44 #[.slice (some ⟨g,0,none⟩) n cap] w fun e w' =>
  ∃ g' cap',e=.returned (.slice (some ⟨g',0,none⟩) n cap')∧w'.ownsRow w.heap.size 34 1 (.slice (some ⟨g',0,none⟩) n cap') n us∧Below w.heap.size w w':=by
 have hlen:us.length=n:=by have:=hO.1;omega
 have HO:=zh hO;have H1:=zh h1;obtain⟨i0,aVh,hz0,hz1,hz2⟩:=info_parts aRk;have f1:=bAi;clear hO h1;go_enter func44,ntmps44;go_wp2_with (at_builtin;refine wpList_append_lies _ rfl (.tmp 5) (.tmp 6) 74 rfl w.heap.size 34 i0 .nilIface 1 16 underlying74 aVh hz0 hz1 hz2 rfl (by decide) (.slice (some ⟨w.heap.size,0,none⟩) 0 0) 0 [] (by simp[Act.eval,Act.put]) (World.ownsRow_lit w #[] 0 lr (by decide) rfl) ⟨g,0,none⟩ n cap us (by simp[Act.eval,Act.put]) (by omega) (World.ownsRow.cells (HO.out.alloc _) rfl) H1.out h0 (by unfold maxLen;omega) (by omega) (by simp) _ rfl ?_;intro g3 oM w3 hO3 hg3 hlies hgl);have hB:Below w.heap.size w w3:=((Below.refl w.heap.size w).alloc lr _).grown hg3 (by simp) (fun k hk=>by have e:w.heap.size=k:=Option.some.inj hk;omega);go_ret;exact⟨g3,oM,by simp,by simpa using hO3,hB⟩
def bHu (l:List Pt) (us:List Value) (w:World) (e:Ending) (w':World):Prop:=∃ t,e=.returned (.tuple #[t,.int .i64 (ofE l)])∧(ofE l≠0→t=.nilIface) ∧
 (ofE l=0→∃ (a:Option Addr) (cap:Nat),t=.iface 118 (.agg #[.slice a l.length cap])∧l.length≤cap∧∀ j,j<l.length→∃ g u,a=some ⟨g,0,none⟩∧w.heap.size≤g∧g<w'.heap.size∧us[j]?=some u∧w'.cell? ⟨g,j,none⟩=some u)∧Below w.heap.size w w'
theorem bAj (l:List Pt) (us:List Value) (s:Value) (w:World) (B:Nat) (hO:w.ownsRow B 34 1 s l.length us) (hl:l.length*72≤140737488351232) (hne:l=[]→s=.slice none 0 0)
 (hv:∀ j (h:j<l.length),∃ u,us[j]?=some u∧VI w 0 w.heap.size l[j] u∧aL l[j]=true∧aW l[j]≤16) :
 Calls prog 24 #[s] w (bHu l us w):=by
 obtain⟨a,cap,rfl⟩:=aKt hO;have HV:=zh hv;have HO:=zh hO;have hE3:=zh (zF l);have HN:=zh hne;clear hv hO hne;by_cases hbig:1024<l.length
 · have q1:decide ((1024:Int)<(l.length:Int))=true:=decide_eq_true (by omega);have HE:=zh (show ofE l=2 by rcases hE3.out with ⟨_,h⟩ | ⟨h,_⟩ | ⟨h,_⟩<;>first | exact h | exact absurd hbig h);clear hbig;go_enter func24,ntmps24;go_wp2_with fail;go_ret2
   exact⟨.nilIface,by rw[HE.out];rfl,fun _=>rfl,fun h=>by(rw[HE.out] at h;cases h),zr⟩
 have q1:decide ((1024:Int)<(l.length:Int))=false:=decide_eq_false (by omega);go_enter func24,ntmps24;go_wp2_with fail;go_loopw [11] (fun i wr=>∃ k:Nat,k≤l.length∧i=.int .i64 k∧RowKit.Hid (∀ j (h:j<l.length),j<k→aW l[j]<16)∧Below w.heap.size w wr) (fun i _=>l.length-(intOf i).toNat)
 case atStart=>exact⟨0,Nat.zero_le _,rfl,zh fun j _ h=>by omega,zr⟩
 case round =>
  obtain⟨k,hkl,rfl,HK,hB⟩:=hrel;by_cases hlt:k<l.length
  · have q3:decide (k<l.length)=true:=by simpa using hlt
    obtain⟨u,hu,oW,hm,hd⟩:=HV.out k hlt;rcases HO.out.2 with ⟨_,hn⟩ | ⟨g,cap',cur,he,_,_⟩
    · omega
    simp only [Value.slice.injEq,true_and] at he;obtain⟨rfl,rfl⟩:=he;have hcell:w.cell? ⟨g,k,none⟩=some u:=by
     have:=World.ownsRow.cells HO.out (g:=g) rfl k u hu;have e:(⟨g,0,none⟩:Addr).add k=⟨g,k,none⟩:=by unfold Addr.add;split<;>simp_all
     rw[e] at this;exact this
    have hcell2:=keeps hB hcell;obtain⟨q,hq⟩:∃ q,l[k]=q:=⟨_,rfl⟩
    rw[hq] at oW hm hd;have HQ:=zh hq;have HM:=zh hm;have HVI:=zh (oW.later hB);clear hq oW hm hcell hu;go_wp2_with fail;refine(aFr q u _ HM.out (by omega) HVI.out).mono ?_;rintro e w1 ⟨rfl,hb1⟩;have hB1:=hB.trans (hb1.mono hB.size);by_cases hdp:16≤aW q
    · have q4:decide ((16:Int)≤(aW q:Int))=true:=decide_eq_true (by omega);have HE:=zh (show ofE l=91 by
       rcases hE3.out with ⟨h,_⟩ | ⟨_,_,h⟩ | ⟨_,h,_⟩
       · exact absurd h hbig
       · exact h
       · have:=aRm.2 ⟨l[k],List.getElem_mem hlt,by rw[HQ.out];exact hdp⟩;rw[h] at this;cases this)
      clear hdp;go_wp2_with fail;go_ret2
      exact⟨.nilIface,by rw[HE.out];rfl,fun _=>rfl,fun h=>by(rw[HE.out] at h;cases h),hB1⟩
    · have q4:decide ((16:Int)≤(aW q:Int))=false:=decide_eq_false (by omega);have hdq:aW q<16:=by omega
      have bG:RowKit.Hid (∀ j (h:j<l.length),j<k+1→aW l[j]<16):=zh fun j hj hjk=>by
       by_cases e:j=k
       · subst e;rw[HQ.out];exact hdq
       · exact HK.out j hj (by omega)
      clear hdp hdq;go_wp2_with fail;refine⟨?_,by simp[intOf];omega⟩;first
       | exact⟨k+1,by omega,rfl,bG,hB1⟩
       | ((repeat apply Exists.intro);exact⟨⟨k+1,by omega,rfl,bG,hB1⟩,rfl⟩)
  · have q3:decide (k<l.length)=false:=by simpa using hlt
    have HE:=zh (show ofE l=0 by
     rcases hE3.out with ⟨h,_⟩ | ⟨_,h,_⟩ | ⟨_,_,h⟩
     · exact absurd h hbig
     · obtain⟨q,hq,hd⟩:=aRm.1 h;obtain⟨j,hj,rfl⟩:=List.getElem_of_mem hq;have:=HK.out j hj (by omega);omega
     · exact h)
    rcases HO.out.2 with ⟨hs,hn⟩ | ⟨g,cap',cur,he,_,hgg,_⟩
    · obtain⟨rfl,_,rfl⟩:a=none∧l.length=0∧cap=0:=by simpa using hs
      obtain rfl:l=[]:=List.eq_nil_of_length_eq_zero hn;clear hn hs;go_wp2_with fail;refine(aVj _).mono ?_;rintro e w1 ⟨rfl,hb1⟩;go_wp2_with fail;go_ret2
      exact⟨_,by rw[HE.out];rfl,fun h=>absurd HE.out h,fun _=>⟨none,0,rfl,Nat.le_refl _,fun j hj=>by cases hj⟩,two hB hb1⟩
    · simp only [Value.slice.injEq,true_and] at he;obtain⟨rfl,rfl⟩:=he;have h1:∀ u∈us,u.oneCell'=true:=fun u hu=>by
       obtain⟨j,hj,rfl⟩:=List.getElem_of_mem hu;have hl1:=HO.out.1;obtain⟨u',hu',oW,_,_⟩:=HV.out j (by omega);rw[List.getElem?_eq_getElem hj] at hu';rw[Option.some.inj hu'];exact oW.one
      by_cases h0:0<l.length
      · have jX:=own_below HO.out hB;clear hgg;have q5:decide (k<l.length)=false:=q3;go_wp2_with fail;refine(aVk g l.length cap us _ B h0 (by omega) jX h1).mono ?_;rintro e w1 ⟨g2,cap2,rfl,hO2,hb1⟩;obtain⟨k1,k2,k3,k4⟩:=bHt hO2;have hsz:w.heap.size≤wr.heap.size:=hB.size;have K4:=zh k4;clear k4 hO2 jX h1;go_wp2_with fail;go_ret2
        exact⟨_,by rw[HE.out];rfl,fun h=>absurd HE.out h,fun _=>⟨some ⟨g2,0,none⟩,cap2,rfl,k1,fun j hj=>by
         obtain⟨u,hu,hc⟩:=K4.out j hj;exact⟨g2,u,rfl,by omega,k3,hu,hc⟩⟩,hB.trans (hb1.mono hsz)⟩
      · obtain rfl:l=[]:=List.eq_nil_of_length_eq_zero (by omega);have:=HN.out rfl;simp at this
end V
namespace Sc
open We (gL lF)
open D (Dm Wf bF)
open Ta (Tm TabAt)
def pJ (Ok:ByteArray→World→Value→Prop) (a:ByteArray) (w:World) (e:Ending) (w':World):Prop :=
 ∃ (v:Value) (c:Int) (x:Int),e=.returned (.tuple #[v,.int .i64 c,.int .i64 x])∧(c=0→Ok a w' v)∧(a.size=0→c=0)∧Below w.heap.size w w'
def aHz (Q:ByteArray→Dm→Prop) (a:ByteArray) (w:World) (v:Value):Prop:=∃ D:Dm,Wf D∧Q a D∧bF w 0 w.heap.size v D
def bAk (Q:ByteArray→Tm→Prop) (a:ByteArray) (w:World) (v:Value):Prop:=∃ T:Tm,lF T∧Q a T∧TabAt w 0 w.heap.size v T
def bHv (Q:ByteArray→Dm→Prop) (G:World→Prop):Prop:=∀ (a:ByteArray) (w:World),G w→Calls prog 37 #[.string a] w (pJ (aHz Q) a w)
def bHw (Q:ByteArray→Tm→Prop) (G:World→Prop):Prop:=∀ (a:ByteArray) (w:World),G w→Calls prog 38 #[.string a] w (pJ (bAk Q) a w)
theorem bDy {Qd:ByteArray→Dm→Prop} {Qt:ByteArray→Tm→Prop} {G:World→Prop} (hG:∀ w w',Below w.heap.size w w'→G w→G w') (HD:bHv Qd G) (HT:bHw Qt G):aRl (fun a b D T=>Qd a D∧Qt b T) G:=by
 intro a b w hw;have H1:=zh (HD a w hw);have H2:=zh (fun (w':World) (hb:Below w.heap.size w w')=>HT b w' (hG _ _ hb hw));clear hw hG HD HT;go_enter func20,ntmps20;go_wp2_with fail;refine H1.out.mono ?_;rintro e w1 ⟨v,c,x,rfl,h1,h1z,hb1⟩;have HV:=zh h1;have HZ:=zh h1z;have HB1:=zh hb1;clear h1 h1z hb1;by_cases hc:c=0
 case neg =>
  have q1:(c != 0)=true:=by simp[hc]
  have HC:=zh hc;clear hc;go_wp2_with fail;refine bodyPost_ret (v:=.tuple #[.pointer none,.int .i64 c,.int .i64 1,.int .i64 x]) (by simp[results,Tryz.f20]) rfl ?_;exact⟨_,_,_,_,rfl,fun h=>absurd h HC.out,fun h _=>HZ.out h,HB1.out⟩
 subst hc;obtain⟨D,wf,hq,hd⟩:=HV.out rfl;obtain⟨pd,hpd⟩:∃ pd,v=.pointer (some ⟨pd,0,none⟩):=by obtain⟨pd,_,_,_,h,_⟩:=hd;exact⟨pd,h⟩
 subst hpd;have HQ:=zh hq;have HDA:=zh hd;clear hq hd;go_wp2_with fail;refine(H2.out w1 HB1.out).mono ?_;rintro e w2 ⟨v2,c2,x2,rfl,h2,h2z,hb2⟩;have HV2:=zh h2;have HZ2:=zh h2z;have zH:=zh hb2;have HB2:=zh (HB1.out.trans (hb2.mono HB1.out.size));clear h2 h2z hb2;by_cases hc2:c2=0
 case neg =>
  have q2:(c2 != 0)=true:=by simp[hc2]
  have HC:=zh hc2;clear hc2;go_wp2_with fail;refine bodyPost_ret (v:=.tuple #[.pointer none,.int .i64 c2,.int .i64 2,.int .i64 x2]) (by simp[results,Tryz.f20]) rfl ?_;exact⟨_,_,_,_,rfl,fun h=>absurd h HC.out,fun _ h=>HZ2.out h,HB2.out⟩
 subst hc2;obtain⟨T,wt,hq2,ht⟩:=HV2.out rfl;obtain⟨pt,hpt⟩:∃ pt,v2=.pointer (some ⟨pt,0,none⟩):=by obtain⟨pt,_,_,_,_,_,_,h,_⟩:=ht;exact⟨pt,h⟩
 subst hpt;have HQ2:=zh hq2;have HTA:=zh ht;clear hq2 ht;go_wp2_with fail;refine bodyPost_ret (v:=.tuple #[.pointer (some ⟨w2.heap.size,0,none⟩),.int .i64 0,.int .i64 0,.int .i64 0]) (by simp[results,Tryz.f20]) rfl ?_;have hb3:Below w2.heap.size w2 (w2.alloc (.cells #[.pointer (some ⟨pd,0,none⟩),.pointer (some ⟨pt,0,none⟩)] 107)):=zr.alloc lr _;have hbk:=aC.new w2 107 #[.pointer (some ⟨pd,0,none⟩),.pointer (some ⟨pt,0,none⟩)];refine⟨_,_,_,_,rfl,fun _=>⟨D,T,_,rfl,wf,wt,⟨HQ.out,HQ2.out⟩,w2.heap.size,_,_,rfl,⟨Nat.zero_le _,hbk.lt⟩,hbk.cell 0,hbk.cell 1,?_,?_⟩,fun _ _=>rfl,HB2.out.trans (hb3.mono HB2.out.size)⟩
 · exact((HDA.out.later zH.out lr).later hb3 zH.out.size).wide lr (Nat.le_trans zH.out.size hb3.size)
 · exact(HTA.out.later hb3 lr).wide lr hb3.size
end Sc
namespace Lo
open D (aF dU)
open Ta (aY)
def Pnt (n:Int):Prop:=aY n=true∧dU n=false
def aDc (c:Int):Ending:=.panicked [{ v:=.iface 153 (.agg #[.int .i64 c]),recovered:=false }]
def bAl (e:Ending):Prop:=(∃ n,e=.returned (.int .i64 n)∧Pnt n)∨e=aDc 40
theorem aLo (s:ByteArray) (hs:s.size≤1048576) (w:World) (hg:GLd w):Calls prog 87 #[.string s] w fun e w'=>bAl e∧Below w.heap.size w w':=by
 have HG:=zh hg;have HP:=zh (wR s hs w hg.errs);clear hg;go_enter func87,ntmps87;go_wp2_with fail;refine HP.out.mono ?_;rintro e w1 ⟨h | h,hb⟩
 · obtain⟨a,rfl,h1,h2⟩:=h;have HB:=zh hb;have HD:=zh (aNf a w1 h1 (HG.out.bru.later hb));clear h1 h2 hb HP;go_wp2_with fail;refine HD.out.mono ?_;rintro e w2 ⟨p,rfl,_,hb2⟩;have HB2:=zh (HB.out.trans (hb2.mono HB.out.size));clear hb2;by_cases hps:p.toList=s.toList
   · go_wp2_with fail;refine(Ta.aHy a w2).mono ?_;rintro e w3 ⟨rfl,rfl⟩;cases hip:aY a with
     | false =>
      go_wp2_with fail;exact⟨rfl,.inr rfl,HB2.out⟩
     | true =>
      go_wp2_with fail;refine(YtcgnajeenflfaaaGreatDoor.D.iC a w3).mono ?_;rintro e w4 ⟨rfl,rfl⟩;cases hsy:dU a with
      | true =>
       go_wp2_with fail;exact⟨rfl,.inr rfl,HB2.out⟩
      | false =>
       have HPt:=zh (show Pnt a from⟨hip,hsy⟩);clear hip hsy;go_wp2_with fail;go_ret;exact⟨.inl ⟨a,rfl,HPt.out⟩,HB2.out⟩
   · go_wp2_with fail;exact⟨rfl,.inr rfl,HB2.out⟩
 · obtain⟨a,T,V,rfl,h1⟩:=h;have HB:=zh hb;clear hb HP h1;go_wp2_with fail;exact⟨rfl,.inr rfl,HB.out⟩
open Ta (bL gI bI)
theorem bMd {W a b:World} (h:Below W.heap.size W a) (k:Below a.heap.size a b):Below W.heap.size W b:=h.trans (k.mono h.size)
theorem aPp {W w1:World} (hb:Below W.heap.size W w1) {p:Addr} {v:Value} (h:W.cell? p=some v):w1.cell? p=some v:=(hb.cell (World.block_lt_of_cell? W p h)).trans h
def aLp (w:World) (e:Ending) (w':World):Prop :=
 ((∃ (x c:Int) (ps:List Int) (v:Value),e=.returned (.agg #[.int .i64 x,.int .i64 c,v])∧Pnt x∧(0≤c∧c≤254)∧(∀ q∈ps,Pnt q)∧ps.length≤65537∧IntsIn w' w.heap.size w'.heap.size v ps)∨e=aDc 40)∧Below w.heap.size w w'
theorem bMe {w:World} {base j c:Nat} {a:Option Addr} {ps:List Int} (hj:ps.length=j) (h:aJ w base (.slice a j c) ps):w.ownsRow base 3 1 (.slice a j c) j (nv ps):=by
 unfold aJ at h;rwa [hj] at h
theorem aFu {w F:World} {tmps:Array Value} {x c:Int} {v:Value} {ps:List Int} (hb:aC F w.heap.size 162 #[.int .i64 x,.int .i64 c,v]) (h2:tmps.getD 2 undef=.pointer (some ⟨w.heap.size,0,none⟩)) (hx:Pnt x) (hc:0≤c∧c≤254) (hp:∀ q∈ps,Pnt q)
 (hl:ps.length≤65537) (hv:IntsIn F w.heap.size F.heap.size v ps) (hB:Below w.heap.size w F):bodyPost prog Tryz.f60 (aLp w) Exit.ret { tmps:=tmps,defers:=[] } F:=by
 have f0:=hb.cell 0;have f1:=hb.cell 1;have f2:=hb.cell 2;simp at f0 f1 f2;simp only [Array.getD_eq_getD_getElem?] at h2;exact bodyPost_ret (v:=.agg #[.int .i64 x,.int .i64 c,v]) (by simp[results,Tryz.f60,Tryz.results60,go_sem,h2,f0,f1,f2]) rfl ⟨.inl ⟨x,c,ps,v,rfl,hx,hc,hp,hl,hv⟩,hB⟩
theorem aPq {F:World} {R base:Nat} {x c v u:Value} {ps:List Int} (h:IntsIn F base F.heap.size u ps) (hR:R<base) :
 IntsIn (((F.setCell ⟨R,0,none⟩ x).setCell ⟨R,1,none⟩ c).setCell ⟨R,2,none⟩ v) R (((F.setCell ⟨R,0,none⟩ x).setCell ⟨R,1,none⟩ c).setCell ⟨R,2,none⟩ v).heap.size u ps:=by
 obtain⟨a,cap,rfl,hc,hn,hcells⟩:=h;exact⟨a,cap,rfl,hc,hn,fun j hj=>by
  obtain⟨g,off,ha,h3,h4,h5⟩:=hcells j hj;refine⟨g,off,ha,by omega,by simpa using h4,?_⟩;have e:∀ (W:World) (i:Nat) (y:Value),(W.setCell ⟨R,i,none⟩ y).cell? ⟨g,off+j,none⟩=W.cell? ⟨g,off+j,none⟩:=fun W i y=>World.cell?_of_block (Below.heap_setCell _ _ _ _ (show g≠R by omega))
  rw[e,e,e];exact h5⟩
theorem aVl {w wr w4 w5:World} {base M C j vc g5 cap5:Nat} {va:Option Addr} {ps:List Int} {y:Int} {x c:Value} {ST RT:Array Value} {t1 t2 t3:TypeId} {old:Value}
 (hx5:Below wr.heap.size wr w4) (hg5:(w4.alloc (.cells #[.int .i64 y] 3)).grownBy w5 (Value.slice va j vc).ownBlock) (qZ:w4.ownsRow base 3 1 (.slice va j vc) j (nv ps))
 (hO6:w5.ownsRow base 3 1 (.slice (some ⟨g5,0,none⟩) (j+1) cap5) (j+1) (nv ps++[.int .i64 y])) (hps:ps.length=j) (hM5:aC w5 M t1 #[x,c,old]) (hMb:M<base) (hCb:C<base) (hwM:w.heap.size<M) (hCM:C≠M) (hbs:base≤wr.heap.size)
 (HC:aC wr C t2 ST) (HR:aC wr w.heap.size t3 RT) (HB:Below w.heap.size w wr) :
 aC (w5.setCell ⟨M,2,none⟩ (.slice (some ⟨g5,0,none⟩) (j+1) cap5)) M t1 #[x,c,.slice (some ⟨g5,0,none⟩) (j+1) cap5]∧aJ (w5.setCell ⟨M,2,none⟩ (.slice (some ⟨g5,0,none⟩) (j+1) cap5)) base (.slice (some ⟨g5,0,none⟩) (j+1) cap5) (ps++[y]) ∧
 aC (w5.setCell ⟨M,2,none⟩ (.slice (some ⟨g5,0,none⟩) (j+1) cap5)) C t2 ST∧aC (w5.setCell ⟨M,2,none⟩ (.slice (some ⟨g5,0,none⟩) (j+1) cap5)) w.heap.size t3 RT ∧
 Below w.heap.size w (w5.setCell ⟨M,2,none⟩ (.slice (some ⟨g5,0,none⟩) (j+1) cap5))∧base≤(w5.setCell ⟨M,2,none⟩ (.slice (some ⟨g5,0,none⟩) (j+1) cap5)).heap.size:=by
 have hs:=hx5.size;have hs2:=hg5.size;rw[World.size_alloc] at hs2;have bAm:∀ {k:Nat} {t:TypeId} {cs:Array Value},aC wr k t cs→k<base→k≠M→aC (w5.setCell ⟨M,2,none⟩ (.slice (some ⟨g5,0,none⟩) (j+1) cap5)) k t cs:=fun {k t cs} h hk hne =>
  Sc.bC ((hg5.block k (by simp;omega) (fun e=>by have:=(World.ownsRow.lt qZ k e.symm).1;omega)).trans (aC.below (aC.below h hx5 h.lt) (zr.alloc lr _) (by omega))) hne 2 _
 have hb4:Below w.heap.size w (w4.alloc (.cells #[.int .i64 y] 3)):=(HB.trans (hx5.mono HB.size)).alloc (by have:=HB.size;omega) _;refine⟨by simpa using hM5.aU 2 (.slice (some ⟨g5,0,none⟩) (j+1) cap5),?_,bAm HC hCb hCM,bAm HR (by omega) (by omega),(hb4.grown hg5 hb4.size (fun k e=>by have:=(World.ownsRow.lt qZ k e).1;omega)).setCell (p:=⟨M,2,none⟩) (by show w.heap.size≤M;omega) _,by simp;omega⟩;have:=ownsRow_setCell_below hO6 (a:=⟨M,2,none⟩) hMb (.slice (some ⟨g5,0,none⟩) (j+1) cap5);unfold aJ;rw[List.length_append,hps,← fP];exact this
theorem aLq {F:World} {R:Nat} {x c:Int} {v:Value} {a b d:Value} (hR:aC F R 162 #[a,b,d]) :
 aC (((F.setCell ⟨R,0,none⟩ (.int .i64 x)).setCell ⟨R,1,none⟩ (.int .i64 c)).setCell ⟨R,2,none⟩ v) R 162 #[.int .i64 x,.int .i64 c,v]:=by
 simpa using ((hR.aU 0 (.int .i64 x)).aU 1 (.int .i64 c)).aU 2 v
theorem bAn (s:ByteArray) (hs:s.size≤65536) (w:World) (hg:GLd w):Calls prog 60 #[.string s] w (aLp w):=by
 obtain⟨W0,hW0⟩:∃ W0,w.alloc (.cells #[.int .i64 0,.int .i64 0,.slice none 0 0] 162)=W0:=⟨_,rfl⟩
 have hb0:Below w.heap.size w W0:=by rw[← hW0];exact zr.alloc lr _
 have HG:=zh hg;have HS:=zh (pI 59 s (by omega) W0 (hg.later hb0));have HSm:=zh (bI 59 s);have HB0:=zh hb0;have HR:aC W0 w.heap.size 162 #[.int .i64 0,.int .i64 0,.slice none 0 0]:=by rw[← hW0];exact aC.new _ _ _
 have HR:=zh HR;have HW0:=zh hW0;clear hg hb0 hW0;go_enter func60,ntmps60;go_wp2_with fail;rw[HW0.out];refine HS.out.mono ?_;rintro e w1 ⟨rfl,hbl,hb1⟩;obtain⟨B,hB⟩:∃ B,W0.heap.size=B:=⟨_,rfl⟩
 obtain⟨l,hl⟩:∃ l,bL 59 s=l:=⟨_,rfl⟩
 rw[hl,hB] at hbl;rw[hl] at HSm ⊢;rw[hB];have HB1:=zh (HB0.out.trans (hb1.mono HB0.out.size));have HR1:=zh (aC.below HR.out hb1 HR.out.lt);have hz1:=HR1.out.lt;have hwB:w.heap.size<B:=by rw[← hB];exact HR.out.lt
 obtain⟨n,hn⟩:∃ n,l.length=n:=⟨_,rfl⟩
 rw[hn];clear HR HB0 HW0 HS hb1;by_cases h3:n=3
 case neg =>
  have q1:((n:Int) != 3)=true:=by simp;omega
  clear h3;go_wp2_with fail;exact⟨rfl,.inr rfl,HB1.out⟩
 subst h3;match l,hn,hbl,HSm with
 | [a,b,c],_,hbl,HSm =>
 have ha:a.size≤s.size:=HSm.out a (by simp);have hbs:b.size≤s.size:=HSm.out b (by simp);have hcs:c.size≤s.size:=HSm.out c (by simp);have HL:=zh hbl;have hBB:=hbl.lt;have c0:w1.cell? ⟨B,0,none⟩=some (.string a):=by simpa using hbl.cell 0
 have HP:=zh (aLo a (by omega) w1 (HG.out.later HB1.out));clear hbl hB;go_wp2_with fail;refine HP.out.mono ?_;rintro e w2 ⟨⟨x,rfl,hx⟩ | he,hb2⟩;case inr =>
  unfold aDc at he;subst he;exact⟨rfl,.inr rfl,HB1.out.trans (hb2.mono HB1.out.size)⟩
 have HX:=zh hx;have HB2:=zh (HB1.out.trans (hb2.mono HB1.out.size));have HL2:=zh (aC.below HL.out hb2 HL.out.lt);have HR2:=zh (aC.below HR1.out hb2 HR1.out.lt);have hz2:w1.heap.size≤w2.heap.size:=hb2.size;obtain⟨W2,hW2⟩:∃ W2,w2.alloc (.cells #[.int .i64 x,.int .i64 0,.slice none 0 0] 162)=W2:=⟨_,rfl⟩
 obtain⟨M,hM⟩:∃ M,w2.heap.size=M:=⟨_,rfl⟩
 have hb3:Below w2.heap.size w2 W2:=by rw[← hW2];exact zr.alloc lr _
 have pK:aC W2 M 162 #[.int .i64 x,.int .i64 0,.slice none 0 0]:=by rw[← hW2,← hM];exact aC.new _ _ _
 have pK:=zh pK;have HL3:=zh (aC.below HL2.out hb3 HL2.out.lt);have HR3:=zh (aC.below HR2.out hb3 HR2.out.lt);have HB3:=zh (HB2.out.trans (hb3.mono HB2.out.size));have HA:=zh (aZk b (by omega) W2 (HG.out.later HB3.out));have c1:w2.cell? ⟨B,1,none⟩=some (.string b):=by simpa using HL2.out.cell 1
 have hBM:B<M:=by omega
 have HW2:=zh hW2;clear HP hx hb2 hb3 c0 hW2;go_wp2_with fail;rw[HW2.out];refine HA.out.mono ?_;rintro e w3 ⟨⟨cl,v,rfl,hv⟩,hb4⟩;have dJ:=zh (HB3.out.trans (hb4.mono HB3.out.size));have rA:=zh (aC.below pK.out hb4 pK.out.lt);have HL4:=zh (aC.below HL3.out hb4 HL3.out.lt);have HR4:=zh (aC.below HR3.out hb4 HR3.out.lt);clear HA hb4 c1;rcases hv with rfl | ⟨T,V,rfl⟩
 case inr =>
  go_wp2_with fail;go_quiet (fail);go_wp2_with fail;exact⟨rfl,.inr rfl,below_drewN dJ.out nq⟩
 by_cases hc0:cl<0
 · have q1:decide (cl<0)=true:=decide_eq_true hc0;clear hc0;go_wp2_with fail;go_quiet (fail);go_wp2_with fail;exact⟨rfl,.inr rfl,below_drewN dJ.out nq⟩
 by_cases hc1:254<cl
 · have q1:decide (cl<0)=false:=decide_eq_false hc0;have q2:decide (254<cl)=true:=decide_eq_true hc1;clear hc0 hc1;go_wp2_with fail;go_quiet (fail);go_wp2_with fail;exact⟨rfl,.inr rfl,below_drewN dJ.out nq⟩
 have q1:decide (cl<0)=false:=decide_eq_false hc0;have q2:decide (254<cl)=false:=decide_eq_false hc1;have HC:=zh (show 0≤cl∧cl≤254 by omega);clear hc0 hc1;have e1:w3.cell? ⟨B,1,none⟩=some (.string b):=by simpa using HL4.out.cell 1
 have HI:=zh (fun (w':World) (hb:Below w3.heap.size w3 w')=>aZl cl HC.out.1 (by have:=HC.out.2;omega) w' ((HG.out.later dJ.out).later hb));have e1d:w3.drew.cell? ⟨B,1,none⟩=some (.string b):=e1;have hbd:Below w3.heap.size w3 w3.drew:=(Below.refl w3.heap.size w3).drew;go_wp2_with fail;go_region_held3 (fun w'=>w'.cell? ⟨B,1,none⟩=some (.string b)∧Below w3.heap.size w3 w') (go_keep) (first
  | (go_at_call 89;refine(HI.out w3.drew hbd).mono ?_;rintro e w9 ⟨p,rfl,aB⟩;have k1:=aPp aB e1d;have kb:=bMd hbd aB)
  | (go_simp;go_at_call 89;refine(HI.out w3.drew hbd).mono ?_;rintro e w9 ⟨p,rfl,aB⟩;have k1:=aPp aB e1d;have kb:=bMd hbd aB))
 have HB9:=zh (dJ.out.trans (kb.mono dJ.out.size));have HM9:=zh (aC.below rA.out kb rA.out.lt);have HL9:=zh (aC.below HL4.out kb HL4.out.lt);have HR9:=zh (aC.below HR4.out kb HR4.out.lt);clear kb hbd HI e1;by_cases hpb:p.toList=b.toList
 case neg =>
  have hq:(p.toList==b.toList)=false:=by simpa using hpb
  clear hpb;simp only [hq,Bool.not_false];go_wp2_with fail;exact⟨rfl,.inr rfl,HB9.out⟩
 have hq:(p.toList==b.toList)=true:=by simpa using hpb
 have n1:w9.cell? ⟨M,1,none⟩=some (.int .i64 0):=by simpa using HM9.out.cell 1
 have z1:=HM9.out.frozen 1;have g2:w9.cell? ⟨B,2,none⟩=some (.string c):=by simpa using HL9.out.cell 2
 have bTv:B≠M:=by omega
 have vR:=zh (HB9.out.setCell (p:=⟨M,1,none⟩) (show w.heap.size≤M by omega) (.int .i64 cl));have bHx:=zh (show aC (w9.setCell ⟨M,1,none⟩ (.int .i64 cl)) M 162 #[.int .i64 x,.int .i64 cl,.slice none 0 0] by simpa using HM9.out.aU 1 (.int .i64 cl));have bTw:=zh (Sc.bC HL9.out bTv 1 (.int .i64 cl));have bHy:=zh (Sc.bC HR9.out (show w.heap.size≠M by omega) 1 (.int .i64 cl));have hz9:=HM9.out.lt;clear hpb;simp only [hq,Bool.not_true];by_cases hc:c.size=0
 · have hce:c.toList.isEmpty=true:=by
    obtain⟨⟨cl⟩⟩:=c;cases cl with
    | nil=>rw[← decide_eq_emptyBytes];rfl
    | cons _ _=>simp[ByteArray.size] at hc
   have n0:w9.cell? ⟨M,0,none⟩=some (.int .i64 x):=by simpa using HM9.out.cell 0
   have n2:w9.cell? ⟨M,2,none⟩=some (.slice none 0 0):=by simpa using HM9.out.cell 2
   have r0:w9.cell? ⟨w.heap.size,0,none⟩=some (.int .i64 0):=by simpa using HR9.out.cell 0
   have r1:w9.cell? ⟨w.heap.size,1,none⟩=some (.int .i64 0):=by simpa using HR9.out.cell 1
   have r2:w9.cell? ⟨w.heap.size,2,none⟩=some (.slice none 0 0):=by simpa using HR9.out.cell 2
   have y0:=HR9.out.frozen 0;have y1:=HR9.out.frozen 1;have y2:=HR9.out.frozen 2;have hMR:M≠w.heap.size:=by omega
   have hRM:w.heap.size≠M:=by omega
   have HF:=zh (aLq (x:=x) (c:=cl) (v:=.slice none 0 0) (Sc.bC HR9.out hRM 1 (.int .i64 cl)));go_wp2_with fail;exact aFu (ps:=[]) HF.out rfl HX.out HC.out (fun q h=>by cases h) (Nat.zero_le _) (IntsIn.nil _ _ _) (((vR.out.setCell (p:=⟨w.heap.size,0,none⟩) lr _).setCell (p:=⟨w.heap.size,1,none⟩) lr _).setCell (p:=⟨w.heap.size,2,none⟩) lr _)
 have hce:c.toList.isEmpty=false:=by
  rw[← decide_eq_emptyBytes];exact decide_eq_false (fun e=>hc (by rw[e];rfl))
 obtain⟨W10,bDz⟩:∃ W,w9.setCell ⟨M,1,none⟩ (.int .i64 cl)=W:=⟨_,rfl⟩
 rw[bDz] at vR bHx bTw bHy;have bMf:=zh bDz;have HS:=zh (pI 32 c (by omega) W10 (HG.out.later vR.out));have HSc:=zh (bI 32 c);have HSl:=zh (gI 32 c);have bWt:w9.heap.size=W10.heap.size:=by rw[← bDz];simp
 clear bDz;go_wp2_with fail;rw[bMf.out];refine HS.out.mono ?_;rintro e W11 ⟨rfl,hbl,bEa⟩;obtain⟨C,hC⟩:∃ C,W10.heap.size=C:=⟨_,rfl⟩
 obtain⟨lc,hlc⟩:∃ lc,bL 32 c=lc:=⟨_,rfl⟩
 obtain⟨nc,hnc⟩:∃ nc,lc.length=nc:=⟨_,rfl⟩
 rw[hlc] at HSc HSl hbl ⊢;rw[hnc] at HSl ⊢;rw[hC] at hbl ⊢;have uN:=zh (vR.out.trans (bEa.mono vR.out.size));have bTx:=zh (aC.below bHx.out bEa bHx.out.lt);have bTy:=zh (aC.below bHy.out bEa bHy.out.lt);have bTz:=zh hbl;have bWu:C<W11.heap.size:=hbl.lt;have bUa:nc≤65537:=by have:=HSl.out;omega
 have HNC:=zh hnc;obtain⟨base,hbase⟩:∃ base,W11.heap.size=base:=⟨_,rfl⟩
 have hMb:M<base:=by omega
 have hCb:C<base:=by omega
 clear hbl bEa HS bMf hlc hnc n1 z1 g2 hq e1d k1 aB hce hc;go_wp2_with fail;go_loopw [59] (fun iv wr=>∃ (j:Nat) (ps:List Int) (v:Value),iv=.int .i64 j∧j≤nc∧ps.length=j∧RowKit.Hid (∀ q∈ps,Pnt q)∧RowKit.Hid (aC wr M 162 #[.int .i64 x,.int .i64 cl,v])∧RowKit.Hid (aJ wr base v ps)∧RowKit.Hid (aC wr C 9 (lc.map Value.string).toArray) ∧
  RowKit.Hid (aC wr w.heap.size 162 #[.int .i64 0,.int .i64 0,.slice none 0 0])∧RowKit.Hid (Below w.heap.size w wr)∧base≤wr.heap.size) (fun i _=>nc-(intOf i).toNat)
 case atStart=>exact⟨0,[],.slice none 0 0,rfl,Nat.zero_le _,rfl,zh (fun q h=>by cases h),bTx,zh (aJ.nil _ _),bTz,bTy,uN,by omega⟩
 case round =>
  obtain⟨j,ps,v,rfl,hj,hps,HP,HM,HO,HC,HR,HB,hbs⟩:=hrel;obtain⟨va,vc,rfl⟩:=aP HO.out;by_cases hlt:j<nc
  · obtain⟨q,hq⟩:∃ q,lc[j]?=some q:=⟨_,List.getElem?_eq_getElem (by rw[HNC.out];exact hlt)⟩
    have hqs:q.size≤c.size:=HSc.out q (List.mem_of_getElem? hq);have cq:wr.cell? ⟨C,j,none⟩=some (.string q):=(HC.out.cell j).trans (by simp[hq]);have m2:wr.cell? ⟨M,2,none⟩=some (.slice va ps.length vc):=by simpa using HM.out.cell 2
    have zm2:=HM.out.frozen 2;have hlM:=HM.out.lt;rw[hps] at m2;have HRD:=zh (aLo q (by omega) wr.drew (HG.out.later HB.out.drew));obtain⟨i0,aVh,hz0,hz1,hz2⟩:=info_parts lK;have HO4:=HO.out;rw[hps] at HO4;clear hq;go_wp2_with fail;go_region_law (first
     | (go_simp;go_at_call 87;refine HRD.out.mono ?_;intro e w4 hpg;obtain⟨hpg,hx4⟩:=hpg;rcases hpg with ⟨y,rfl,hy⟩ | he;rotate_left;(unfold aDc at he;subst he;go_wp2_with fail;(exact⟨rfl,.inr rfl,HB.out.drew.trans (hx4.mono HB.out.size)⟩));
         have hx5:Below wr.heap.size wr w4:=⟨hx4.os,hx4.tape,hx4.output,hx4.size,hx4.block⟩;have qZ:=bMe hps (aJ.below HO4 hx5);have hs5:=hx5.size;have hMM:=aC.below HM.out hx5 hlM;have p4:=aPp hx5 m2;have b4:=Nat.lt_of_lt_of_le hlM hx5.size)
     | (refine step_append_lies _ rfl (.tmp 64) (.tmp 67) 42 rfl base 3 i0 (.int .i64 0) 1 8 underlying42 aVh hz0 hz1 hz2 rfl (by decide) (.slice va j vc) j (nv ps) (by simp[Act.eval,Act.put]) (qZ.alloc _) ⟨w4.heap.size,0,none⟩ 1 1 [.int .i64 y] (by simp[Act.eval,Act.put]) rfl (cell_one_new _ _ _) (by intro u hu;rw[List.mem_singleton.1 hu];rfl) (by decide) (by unfold maxLen;omega) (by omega) (by simp;omega) _ rfl ?_;intro g5 cap5 w5 hO6 hg5 hlies hgl;
         have hM5:aC w5 M 162 #[.int .i64 x,.int .i64 cl,.slice va j vc]:=(by rw[hps] at hMM;exact(hg5.block M (by simp;omega) (fun e=>by have:=(World.ownsRow.lt qZ M e.symm).1;omega)).trans (aC.below hMM (zr.alloc lr _) b4));have p5:=hM5.cell 2;have z5:=hM5.frozen 2;simp at p5))
    all_goals
     obtain⟨s1,s2,s3,s4,s5,s6⟩:=aVl hx5 hg5 qZ hO6 hps hM5 hMb hCb (show w.heap.size<M by omega) (show C≠M by omega) hbs HC.out HR.out HB.out;have S1:=zh s1;have S2:=zh s2;have S3:=zh s3;have S4:=zh s4;have S5:=zh s5;have HPY:=zh (show ∀ q∈ps++[y],Pnt q from fun q hq=>by
      rcases List.mem_append.1 hq with h | h
      · exact HP.out q h
      · rw[List.mem_singleton.1 h];exact hy)
     clear s1 s2 s3 s4 s5 hy qZ hO6 hMM;go_wp2_with fail;exact⟨⟨j+1,ps++[y],_,by simp,by omega,by simp[hps],HPY,S1,S2,S3,S4,S5,s6⟩,by simp[intOf];omega⟩
  · have m2:wr.cell? ⟨M,2,none⟩=some (.slice va ps.length vc):=by simpa using HM.out.cell 2
    have hf:=aLq (x:=x) (c:=cl) (v:=.slice va ps.length vc) HR.out;have hv:=HO.out.reads;rw[hps] at m2 hf hv;have HF:=zh hf;have HV:=zh hv;have HPS:=zh (show ps.length≤65537 by omega);clear hf hv hps;obtain rfl:j=nc:=by omega
    have m0:wr.cell? ⟨M,0,none⟩=some (.int .i64 x):=by simpa using HM.out.cell 0
    have m1:wr.cell? ⟨M,1,none⟩=some (.int .i64 cl):=by simpa using HM.out.cell 1
    have r0:wr.cell? ⟨w.heap.size,0,none⟩=some (.int .i64 0):=by simpa using HR.out.cell 0
    have r1:wr.cell? ⟨w.heap.size,1,none⟩=some (.int .i64 0):=by simpa using HR.out.cell 1
    have r2:wr.cell? ⟨w.heap.size,2,none⟩=some (.slice none 0 0):=by simpa using HR.out.cell 2
    have y0:=HR.out.frozen 0;have y1:=HR.out.frozen 1;have y2:=HR.out.frozen 2;go_wp2_with fail;exact aFu HF.out rfl HX.out ‹RowKit.Hid (0≤cl∧cl≤254)›.out HP.out HPS.out (aPq HV.out (by omega)) (((HB.out.setCell (p:=⟨w.heap.size,0,none⟩) lr _).setCell (p:=⟨w.heap.size,1,none⟩) lr _).setCell (p:=⟨w.heap.size,2,none⟩) lr _)
end Lo
section
open Go.Extern.Stop Go.Stop Go.Extern
theorem Isf.typeOf (v:Value) (w:World):(Extern.ReflectliteType.typeOf #[.iface 41 v]).run prog w=.ok (.iface 197 (.agg #[.pointer (some ⟨11,41,none⟩)])) w:=by kernel_rfl
theorem Isf.comparable (w:World):((Extern.ReflectliteType.method fun t=>do Rtype.noPackHeld "Comparable" t;(fun a=>Value.bool a.comparable) <$> typeInfo t) #[.agg #[.pointer (some ⟨11,41,none⟩)]]).run prog w=.ok (.bool true) w:=by kernel_rfl
theorem Isf.method (v:Value) (w:World):(Go.method 512 197 v "Comparable").run prog w=.ok (290,v) w:=by kernel_rfl
theorem Isf.bMg (w:World):(binOp .eql 36 (.iface 41 (.int .i64 0)) (.iface 41 (.int .i64 0))).run prog w=.ok (.bool true) w:=by kernel_rfl
theorem bEb (w:World):Calls prog 46 #[.iface 41 (.int .i64 0),.iface 41 (.int .i64 0),.bool true] w fun e w'=>e=.returned (.bool true)∧Below w.heap.size w w':=by
 have hO:=Isf.bMg;go_enter func46,ntmps46;go_wp2_with fail;refine wp_loop_rounds 1 ?_;rw[rounds_succ];go_wp2_with fail;go_ret;exact⟨rfl,zr⟩
theorem bEc (w:World):Calls prog 25 #[.iface 41 (.int .i64 0),.iface 41 (.int .i64 0)] w fun e w'=>e=.returned (.bool true)∧Below w.heap.size w w':=by
 have h8:=@run_callFunc_extern prog 45 _ Extern.ReflectliteType.typeOf func45 (by kernel_rfl) (by kernel_rfl) (by kernel_rfl) (by kernel_rfl);have h32:=@run_callFunc_extern prog 290 _ (Extern.ReflectliteType.method fun t=>do Rtype.noPackHeld "Comparable" t;pure (.bool (← typeInfo t).comparable)) func290 (by kernel_rfl) (by kernel_rfl) (by kernel_rfl) (by kernel_rfl);have tT:=Isf.typeOf;have cT:=Isf.comparable;have mR:=Isf.method;go_enter func25,ntmps25;go_wp2_with fail;refine(bEb _).mono ?_;rintro e w1 ⟨rfl,hb1⟩;go_wp2_with fail;go_ret;exact⟨rfl,hb1⟩
end
namespace V
open Go.ChangeShapes Go.WideShapes Go.ChangeAt Go.RowKit Go.Deep
def aFv (H:Type) (enc:TypeId×Value→H) (w:World) (base:Nat) (sp:Nat→Bool) (held:Bool) (fuel:Nat):Prop :=
 ∀ (v:Value) (x:DataW H×List MemPlace),DataW.trod enc prog w base sp held fuel 55 [v]=some x→(∀ n∈x.1.weights prog 55,n≤reachBytes)→∃ l,PI w 0 w.heap.size l v∧l.length≤reachBytes
theorem zI {H:Type} {enc:TypeId×Value→H} {w:World} {base:Nat} {sp:Nat→Bool} {held:Bool} {fuel:Nat} {cs:List Value} {x:DataW H×List MemPlace}
 (ih:∀ m,m<fuel→aFv H enc w base sp held m) (h:DataW.trod enc prog w base sp held fuel 57 cs=some x) (hw:∀ n∈x.1.weights prog 57,n≤reachBytes) :
 ∃ (p:Pt) (u:Value),cs=[.int .u8 p.kind,.bool p.yes,.bool p.neg,.string p.mag,.string p.raw,u]∧Fit p∧PI w 0 w.heap.size p.items u:=by
 obtain⟨ys,n,hn,rfl,hcl,hyl,hf⟩:=DataW.trod_struct underlying57 h;have e27:prog.cellsOf 57=6:=by kernel_rfl
 rw[e27] at hcl;match cs,hcl with
 | [v0,v1,v2,v3,v4,v5],_ =>
  match ys,hyl with
  | [y0,y1,y2,y3,y4],_ =>
   have e22:prog.cellsOf 52=1:=by kernel_rfl
   have e4:prog.cellsOf 4=1:=by kernel_rfl
   have e24:prog.cellsOf 54=2:=by kernel_rfl
   have e9:prog.cellsOf 9=1:=by kernel_rfl
   have e25:prog.cellsOf 55=1:=by kernel_rfl
   have h0:=hf 0 _ rfl;have h1:=hf 1 _ rfl;have h2:=hf 2 _ rfl;have h3:=hf 3 _ rfl;have h4:=hf 4 _ rfl;simp[e22,e4,e24,e9,e25] at h0 h1 h2 h3 h4;have hw':∀ n∈DataW.weightsEach prog [52,4,54,9,55] [y0.1,y1.1,y2.1,y3.1,y4.1],n≤reachBytes:=by
    simpa[DataW.weights,underlying57] using hw
   have q2:∀ n∈y2.1.weights prog 54,n≤reachBytes:=fun n hn=>hw' n (DataW.weights_mem_each (j:=2) rfl rfl n hn)
   have q3:∀ n∈y3.1.weights prog 9,n≤reachBytes:=fun n hn=>hw' n (DataW.weights_mem_each (j:=3) rfl rfl n hn)
   have q4:∀ n∈y4.1.weights prog 55,n≤reachBytes:=fun n hn=>hw' n (DataW.weights_mem_each (j:=4) rfl rfl n hn)
   obtain⟨k,hk,_,hkw⟩:=DataW.trod_int underlying52 h0;obtain⟨yes,hy,_⟩:=DataW.trod_bool underlying4 h1;obtain⟨z0,z1,m,hz,_,g0,g1⟩:=trod_struct2 underlying54 h2;obtain⟨neg,hng,_⟩:=DataW.trod_bool underlying4 g0;obtain⟨mag,hmg,hmz,_⟩:=DataW.trod_string underlying9 g1;obtain⟨raw,hrw,hrz,_⟩:=DataW.trod_string underlying9 h3;rw[e4] at hng;rw[e9] at hmg;obtain rfl:v0=.int .u8 k:=by simpa using hk
   obtain rfl:v1=.bool yes:=by simpa using hy
   obtain rfl:v2=.bool neg:=by simpa using hng
   obtain rfl:v3=.string mag:=by simpa using hmg
   obtain rfl:v4=.string raw:=by simpa using hrw
   have hkb:0≤k∧k≤255:=by
    simp only [Lit.wf,Bool.and_eq_true,decide_eq_true_eq] at hkw;exact hkw
   obtain⟨l,hl,hll⟩:=ih n (by omega) v5 y4 h4 q4;have hms:mag.size≤reachBytes:=by
    refine q2 _ ?_;rw[hz];simp[DataW.weights,underlying54,DataW.weightsEach,hmz]
   have hrs:raw.size≤reachBytes:=by
    refine q3 _ ?_;rw[hrz];simp[DataW.weights]
   have hr:reachBytes=140737488351232:=by decide
   rw[hr] at hms hrs hll;refine⟨.mk k.toNat yes neg mag raw l,v5,?_,⟨?_,hms,hrs,hll⟩,hl⟩
   · show [Value.int .u8 k,_,_,_,_,_]=[.int .u8 (k.toNat:Int),_,_,_,_,_]
     rw[Int.toNat_of_nonneg hkb.1];rfl
   · show k.toNat<256
     omega
theorem aFw {H:Type} {enc:TypeId×Value→H} {w:World} {base:Nat} {sp:Nat→Bool} {held:Bool} (fuel:Nat):aFv H enc w base sp held fuel:=by
 induction fuel using Nat.strongRecOn with
 | _ fuel ih =>
 intro v x h hw;rcases DataW.trod_slice underlying55 h with ⟨hc,rfl⟩ | ⟨a,len,cap,elems,rest,n,rfl,hc,rfl,_,hlc,_,hel,hall,_⟩
 · obtain rfl:v=.slice none 0 0:=by simpa using hc
   exact⟨[],PI.nil _ _ _,Nat.zero_le _⟩
 obtain rfl:v=.slice (some a) len cap:=by simpa using hc
 have e27:prog.cellsOf 57=6:=by kernel_rfl
 have b27:1≤prog.bytesOf 57:=by decide +kernel
 rw[e27] at hall;have hw':(elems.length+rest.length)*prog.bytesOf 57≤reachBytes∧∀ n∈DataW.weightsAll prog 57 (elems.map (·.1)),n≤reachBytes:=by
  simp only [DataW.weights,underlying55,List.length_map,List.mem_cons,List.mem_append] at hw;exact⟨hw _ (.inl rfl),fun n hn=>hw n (.inr (.inl hn))⟩
 have hlen:len≤reachBytes:=by
  have h1:(elems.length+rest.length)*1≤(elems.length+rest.length)*prog.bytesOf 57:=Nat.mul_le_mul_left _ b27;omega
 obtain⟨b,off,spot⟩:=a;by_cases h0:len=0
 · subst h0;exact⟨[],PI.mk [] (some ⟨b,off,spot⟩) cap (fun _=>.nilIface) (Nat.zero_le _) (fun j hj=>by cases hj) (fun j hj=>by cases hj) (fun j hj=>by cases hj),Nat.zero_le _⟩
 obtain rfl:spot=none:=by
  have h1:=hall 0 (by omega);rw[List.getElem?_eq_getElem (by omega)] at h1;obtain⟨cs,h2,h3⟩:=Option.bind_eq_some_iff.1 h1;obtain⟨_,hcl,hat⟩:=World.cells?_some h2;have:=hat 0 (by decide);rw[List.getElem?_eq_getElem (by omega)] at this;simpa[Addr.add] using World.cell?_spot this
 have hadd:∀ o k,(⟨b,o,none⟩:Addr).add k=⟨b,o+k,none⟩:=fun o k=>by
  simp only [Addr.add];split<;>simp_all
 have key:∀ j,j<len→b<w.heap.size∧∃ (p:Pt) (u:Value),bY w b (off+j*6) p u∧Fit p∧PI w 0 w.heap.size p.items u:=fun j hj=>by
  have h1:=hall j hj;rw[List.getElem?_eq_getElem (by omega)] at h1;obtain⟨cs,h2,h3⟩:=Option.bind_eq_some_iff.1 h1;obtain⟨p,u,rfl,hf,hp⟩:=zI (fun m hm=>ih m (by omega)) h3 (fun m hm=>hw'.2 m (Sc.aXz (List.mem_map.2 ⟨_,List.getElem_mem _,rfl⟩) m hm));obtain⟨_,_,hat⟩:=World.cells?_some h2;have at_:∀ i,i<6→w.cell? ⟨b,off+j*6+i,none⟩=[Value.int .u8 p.kind,.bool p.yes,.bool p.neg,.string p.mag,.string p.raw,u][i]?:=fun i hi=>by
   rw[← hat i hi,hadd,hadd]
  exact⟨World.block_lt_of_cell? w _ (at_ 0 (by decide)),p,u,⟨at_ 0 (by decide),at_ 1 (by decide),at_ 2 (by decide),at_ 3 (by decide),at_ 4 (by decide),at_ 5 (by decide)⟩,hf,hp⟩
 let G:Nat→Pt:=fun j=>if hj:j<len then (key j hj).2.choose else .mk 0 false false ⟨#[]⟩ ⟨#[]⟩ []
 let F:Nat→Value:=fun j=>if hj:j<len then (key j hj).2.choose_spec.choose else .nilIface
 have hG:∀ j,j<len→bY w b (off+j*6) (G j) (F j)∧Fit (G j)∧PI w 0 w.heap.size (G j).items (F j):=fun j hj=>by
  simp only [G,F,hj,dif_pos];exact(key j hj).2.choose_spec.choose_spec
 have hl:((List.range len).map G).length=len:=by simp
 have hg:∀ j (h:j<((List.range len).map G).length),((List.range len).map G)[j]=G j:=fun j h=>by simp
 refine⟨(List.range len).map G,?_,by rw[hl];exact hlen⟩;have:=PI.mk (w:=w) (lo:=0) (hi:=w.heap.size) ((List.range len).map G) (some ⟨b,off,none⟩) cap F (by rw[hl];exact hlc)
  (fun j h=>⟨b,off,rfl,Nat.zero_le _,(key j (by omega)).1,by rw[hg];exact(hG j (by omega)).1⟩) (fun j h=>by rw[hg];exact(hG j (by omega)).2.1) (fun j h=>by rw[hg];exact(hG j (by omega)).2.2)
 rw[hl] at this;exact this
theorem aVm {H:Type} {enc:TypeId×Value→H} {w:World} {base b0:Nat} {sp:Nat→Bool} {held:Bool} {r:Reach} {v:Value} {d:DataW H} {ps:List MemPlace}
 (hval:Value.okWide prog w r b0 57 v) (h:DataW.Trod enc prog w base sp held 57 v d ps) (hw:∀ n∈d.weights prog 57,n≤reachBytes) :
 ∃ (p:Pt) (u:Value),v=.agg #[.int .u8 p.kind,.bool p.yes,.bool p.neg,.string p.mag,.string p.raw,u]∧Fit p∧PI w 0 w.heap.size p.items u:=by
 obtain⟨fuel,hf⟩:=h;obtain⟨p,u,hc,hfp,hp⟩:=zI (fun m _=>aFw m) hf hw;obtain⟨cs,rfl,_⟩:=okWide_struct underlying57 hval;refine⟨p,u,?_,hfp,hp⟩;have hc':cs.toList=[.int .u8 p.kind,.bool p.yes,.bool p.neg,.string p.mag,.string p.raw,u]:=hc;cases cs;simp_all
theorem aLr {H:Type} {enc:TypeId×Value→H} {w:World} {base:Nat} {sp:Nat→Bool} {held:Bool} {fuel:Nat} {cs:List Value} {x:DataW H×List MemPlace}
 (h:DataW.trod enc prog w base sp held fuel 59 cs=some x) (hw:∀ n∈x.1.weights prog 59,n≤reachBytes) :
 ∃ (f:Int) (p:Pt) (u:Value),cs=[.int .i64 f,.int .u8 p.kind,.bool p.yes,.bool p.neg,.string p.mag,.string p.raw,u]∧Fit p∧PI w 0 w.heap.size p.items u:=by
 have e7:prog.cellsOf 59=7:=by kernel_rfl
 have e3:prog.cellsOf 3=1:=by kernel_rfl
 have e6:prog.cellsOf 57=6:=by kernel_rfl
 obtain⟨z0,z1,m,hz,hl,g0,g1⟩:=trod_struct2 underlying59 h;rw[e7] at hl;match cs,hl with
 | [v0,v1,v2,v3,v4,v5,v6],_ =>
  simp[e3,e6] at g0 g1;obtain⟨f,hf,_⟩:=DataW.trod_int underlying3 g0;obtain rfl:v0=.int .i64 f:=by simpa using hf
  obtain⟨p,u,hc,hfp,hp⟩:=zI (fun m _=>aFw m) g1 (fun n hn=>by
   refine hw n ?_;rw[hz];simp only [DataW.weights,underlying59];exact DataW.weights_mem_each (j:=1) rfl rfl n hn)
  exact⟨f,p,u,by rw[hc],hfp,hp⟩
theorem aIa {H:Type} {enc:TypeId×Value→H} {w:World} {base:Nat} {sp:Nat→Bool} {held:Bool} {fuel:Nat} {v:Value} {x:DataW H×List MemPlace}
 (h:DataW.trod enc prog w base sp held fuel 49 [v]=some x) (hw:∀ n∈x.1.weights prog 49,n≤reachBytes) :
 ∃ L,Rk.nC w 0 w.heap.size L v∧L.length≤reachBytes:=by
 rcases DataW.trod_slice underlying49 h with ⟨hc,rfl⟩ | ⟨a,len,cap,elems,rest,n,rfl,hc,rfl,_,hlc,_,hel,hall,_⟩
 · obtain rfl:v=.slice none 0 0:=by simpa using hc
   exact⟨[],⟨none,0,rfl,Nat.le_refl _,fun j h=>by cases h⟩,Nat.zero_le _⟩
 obtain rfl:v=.slice (some a) len cap:=by simpa using hc
 have e7:prog.cellsOf 59=7:=by kernel_rfl
 have b7:1≤prog.bytesOf 59:=by decide +kernel
 rw[e7] at hall;have hw':(elems.length+rest.length)*prog.bytesOf 59≤reachBytes∧∀ n∈DataW.weightsAll prog 59 (elems.map (·.1)),n≤reachBytes:=by
  simp only [DataW.weights,underlying49,List.length_map,List.mem_cons,List.mem_append] at hw;exact⟨hw _ (.inl rfl),fun n hn=>hw n (.inr (.inl hn))⟩
 have hlen:len≤reachBytes:=by
  have h1:(elems.length+rest.length)*1≤(elems.length+rest.length)*prog.bytesOf 59:=Nat.mul_le_mul_left _ b7;omega
 obtain⟨b,off,spot⟩:=a;by_cases h0:len=0
 · subst h0;exact⟨[],⟨some ⟨b,off,spot⟩,cap,rfl,Nat.zero_le _,fun j h=>by cases h⟩,Nat.zero_le _⟩
 obtain rfl:spot=none:=by
  have h1:=hall 0 (by omega);rw[List.getElem?_eq_getElem (by omega)] at h1;obtain⟨cs,h2,h3⟩:=Option.bind_eq_some_iff.1 h1;obtain⟨_,hcl,hat⟩:=World.cells?_some h2;have:=hat 0 (by decide);rw[List.getElem?_eq_getElem (by omega)] at this;simpa[Addr.add] using World.cell?_spot this
 have hadd:∀ o k,(⟨b,o,none⟩:Addr).add k=⟨b,o+k,none⟩:=fun o k=>by
  simp only [Addr.add];split<;>simp_all
 have key:∀ j,j<len→∃ (f:Int) (p:Pt) (u:Value),b<w.heap.size∧w.cell? ⟨b,off+j*7,none⟩=some (.int .i64 f)∧bY w b (off+j*7+1) p u∧Fit p∧PI w 0 w.heap.size p.items u:=fun j hj=>by
  have h1:=hall j hj;rw[List.getElem?_eq_getElem (by omega)] at h1;obtain⟨cs,h2,h3⟩:=Option.bind_eq_some_iff.1 h1;obtain⟨f,p,u,rfl,hf,hp⟩:=aLr h3 (fun m hm=>hw'.2 m (Sc.aXz (List.mem_map.2 ⟨_,List.getElem_mem _,rfl⟩) m hm));obtain⟨_,_,hat⟩:=World.cells?_some h2;have at_:∀ i,i<7→w.cell? ⟨b,off+j*7+i,none⟩=[Value.int .i64 f,.int .u8 p.kind,.bool p.yes,.bool p.neg,.string p.mag,.string p.raw,u][i]?:=fun i hi=>by
   rw[← hat i hi,hadd,hadd]
  exact⟨f,p,u,World.block_lt_of_cell? w _ (at_ 0 (by decide)),at_ 0 (by decide),⟨at_ 1 (by decide),at_ 2 (by decide),at_ 3 (by decide),at_ 4 (by decide),at_ 5 (by decide),at_ 6 (by decide)⟩,hf,hp⟩
 let G:Nat→Int×Pt:=fun j=>if hj:j<len then ((key j hj).choose,(key j hj).choose_spec.choose) else (0,.mk 0 false false ⟨#[]⟩ ⟨#[]⟩ [])
 have hG:∀ j,j<len→∃ u,b<w.heap.size∧w.cell? ⟨b,off+j*7,none⟩=some (.int .i64 (G j).1)∧bY w b (off+j*7+1) (G j).2 u∧Fit (G j).2∧PI w 0 w.heap.size (G j).2.items u:=fun j hj=>by
  simp only [G,hj,dif_pos];exact(key j hj).choose_spec.choose_spec
 have hl:((List.range len).map G).length=len:=by simp
 have hg:∀ j (h:j<((List.range len).map G).length),((List.range len).map G)[j]=G j:=fun j h=>by simp
 refine⟨(List.range len).map G,⟨some ⟨b,off,none⟩,cap,by rw[hl],by rw[hl];exact hlc,fun j h=>?_⟩,by rw[hl];exact hlen⟩;obtain⟨u,h1,h2,h3,h4,h5⟩:=hG j (by omega);rw[hg];exact⟨b,off,u,rfl,Nat.zero_le _,h1,h2,h3,h4,h5⟩
theorem aIb {H:Type} {enc:TypeId×Value→H} {w:World} {base b0:Nat} {sp:Nat→Bool} {held:Bool} {r:Reach} {v:Value} {d:DataW H} {ps:List MemPlace}
 (hval:Value.okWide prog w r b0 51 v) (h:DataW.Trod enc prog w base sp held 51 v d ps) (hw:∀ n∈d.weights prog 51,n≤reachBytes) :
 ∃ (lim:Int) (F:List Sc.Fd) (a0:Option Addr) (k0:Nat) (L:List (Int×Pt)) (l0:Option Addr) (l1:Nat),v=.agg #[.int .i64 lim,.slice a0 F.length k0,.slice l0 L.length l1]∧Sc.FI w 0 w.heap.size F (.slice a0 F.length k0)∧F.length≤140737488351232 ∧
  Rk.nC w 0 w.heap.size L (.slice l0 L.length l1)∧L.length≤140737488351232:=by
 obtain⟨fuel,hf⟩:=h;have e3:prog.cellsOf 51=3:=by kernel_rfl
 have eS:prog.cellsOf 26=2:=by kernel_rfl
 have eL:prog.cellsOf 49=1:=by kernel_rfl
 obtain⟨cs,rfl,_⟩:=okWide_struct underlying51 hval;obtain⟨z0,z1,m,hz,hl,g0,g1⟩:=trod_struct2 underlying51 hf;rw[e3] at hl;have hcs:∃ c0 c1 c2,cs=#[c0,c1,c2]:=by
  obtain⟨l⟩:=cs;match l,hl with
  | [c0,c1,c2],_=>exact⟨c0,c1,c2,rfl⟩
 obtain⟨c0,c1,c2,rfl⟩:=hcs;simp[eS,eL,Value.cells] at g0 g1;obtain⟨lim,F,a0,k0,rfl,rfl,hF,hFl⟩:=Sc.zZ g0 (fun n hn=>by
  refine hw n ?_;rw[show d=_ from congrArg Prod.fst hz];simp only [DataW.weights,underlying51];exact DataW.weights_mem_each (j:=0) rfl rfl n hn)
 obtain⟨L,hL,hLl⟩:=aIa g1 (fun n hn=>by
  refine hw n ?_;rw[show d=_ from congrArg Prod.fst hz];simp only [DataW.weights,underlying51];exact DataW.weights_mem_each (j:=1) rfl rfl n hn)
 have hr:reachBytes=140737488351232:=by decide
 rw[hr] at hLl;obtain⟨l0,l1,rfl,hc,hat⟩:=hL;exact⟨lim,F,a0,k0,L,l0,l1,rfl,hF,hFl,⟨l0,l1,rfl,hc,hat⟩,hLl⟩
