import Derived.Test.YtcgnajeenflfaaaGreatDoorP12
import Derived.Test.YtcgnajeenflfaaaGreatDoorP13
set_option maxRecDepth 100000
set_option maxHeartbeats 4000000
set_option linter.all false
open Go.Proofs.Tryz Go.RowKit
namespace Go.Proofs.YtcgnajeenflfaaaGreatDoor
namespace U
open Go.Shelf
attribute [local go_sem] Oper.semAt_some
theorem info3:(prog.info? 3).map (fun i=>(i.zero,i.size,i.bytes))=some (some (.int .i64 0),1,8):=by kernel_rfl
def ptsOf (l:List (Int×Int)):List Int:=l.map (·.2)
def pointsS (s:ByteArray):List Int:=ptsOf (items s)
theorem itemsF_length (s:ByteArray) (f k:Nat):(itemsF s f k).length≤f:=by
 induction f generalizing k with
 | zero=>simp[itemsF]
 | succ f ih =>
  unfold itemsF
  split
  · split
    · simp
    · have:=ih (k+wideN s k);simp only [List.length_cons];omega
  · simp
theorem items_length (s:ByteArray):(items s).length≤s.size:=itemsF_length ..
theorem keep_row {W:World} {b c:Nat} {v u:Value} {n:Nat} {xs:List Value} (h:W.ownsRow b 3 1 v n xs) (hc:c<b):(W.setCell ⟨c,0,none⟩ u).ownsRow b 3 1 v n xs:=by
 refine h.kept (grownBy_setCell' W c u) ?_
 rcases h.2 with ⟨rfl,_⟩ | ⟨g,cap,cur,rfl,hg,_⟩
 · exact .inl rfl
 · exact .inr fun e=>by simp[Value.ownBlock] at e;omega
theorem Bad.not_good {s:ByteArray} {pre:List (Int×Int)} {a:Int} (hb:Bad pre a) (hp:pre <+: items s):¬ Good (items s):=by
 obtain⟨ini,last,rfl,_,hl,_⟩:=hb
 obtain⟨r,hr⟩:=hp
 intro hg
 have:=hg last (by rw[← hr];simp)
 omega
theorem boxk {b:Nat} {t:TypeId} {v:Value} {X Y:World} {row:Option Nat} (h:Boxed X b t v) (hg:X.grownBy Y row) (hr:∀ r,row=some r→∃ o,X.heap[r]?=some o∧o.isCells=false):Boxed Y b t v :=
 h.kept hg (fun e=>by obtain⟨o,ho,hc⟩:=hr b e.symm;rw[show X.heap[b]?=_ from h] at ho;cases ho;cases hc)
theorem Points_any (s:ByteArray) (hs:s.size≤65536) (w:World) :
 Calls prog 200 #[.string s] w fun e w'=>Below w.heap.size w w' ∧
  ((Good (items s)∧∃ v,e=.returned (.tuple #[v,.int .i64 0,.int .i64 0])∧OwnN w' w.heap.size v (pointsS s)) ∨
   (∃ a,checkS s=a∧¬ Good (items s)∧e=.returned (.tuple #[.slice none 0 0,.int .i64 30,.int .i64 a]))):=by
 obtain⟨i0,hi,hz0,hz1,hz2⟩:=info_parts info3
 refine(callsIn_wide (n:=10)).1 ?_
 refine callsIn_of_wp_marks func200 rfl trivial ?_ rfl
 simp only [ntmps200,List.size_toArray,List.length_cons,List.length_nil,Nat.reduceAdd,Nat.reduceSub,Array.replicate_succ,Array.replicate_zero,List.push_toArray,List.append_toArray,List.nil_append,List.cons_append]
 gi_wp2
 refine⟨trivial,(chars_in _ _ _).mono ?_⟩
 rintro e w' ⟨rfl,rfl⟩
 gi_wp2
 obtain⟨B,hBe⟩:∃ B,w.heap.size=B:=⟨_,rfl⟩
 obtain⟨W0,hW0⟩:∃ W0,((((w.alloc (.cells #[.slice none 0 0] 42)).alloc (.cells #[.int .i64 0] 41)).alloc (.cells #[.int .i64 0] 3)).alloc (.cells #[.slice none 0 0] 42)).alloc (.cells #[.string s] 9)=W0:=⟨_,rfl⟩
 have b0:Boxed W0 B 42 (.slice none 0 0):=by rw[← hW0,← hBe];exact((((Boxed.new w 42 _).alloc _).alloc _).alloc _).alloc _
 have b1:Boxed W0 (B+1) 41 (.int .i64 0):=by rw[← hW0,← hBe];simpa using (((Boxed.new (w.alloc (.cells #[.slice none 0 0] 42)) 41 (.int .i64 0)).alloc (.cells #[.int .i64 0] 3)).alloc (.cells #[.slice none 0 0] 42)).alloc (.cells #[.string s] 9)
 have b2:Boxed W0 (B+2) 3 (.int .i64 0):=by rw[← hW0,← hBe];simpa using ((Boxed.new ((w.alloc (.cells #[.slice none 0 0] 42)).alloc (.cells #[.int .i64 0] 41)) 3 (.int .i64 0)).alloc (.cells #[.slice none 0 0] 42)).alloc (.cells #[.string s] 9)
 have b3:Boxed W0 (B+3) 42 (.slice none 0 0):=by rw[← hW0,← hBe];simpa using (Boxed.new (((w.alloc (.cells #[.slice none 0 0] 42)).alloc (.cells #[.int .i64 0] 41)).alloc (.cells #[.int .i64 0] 3)) 42 (.slice none 0 0)).alloc (.cells #[.string s] 9)
 have b4:Boxed W0 (B+4) 9 (.string s):=by rw[← hW0,← hBe];simpa using Boxed.new ((((w.alloc (.cells #[.slice none 0 0] 42)).alloc (.cells #[.int .i64 0] 41)).alloc (.cells #[.int .i64 0] 3)).alloc (.cells #[.slice none 0 0] 42)) 9 (.string s)
 have hsz:W0.heap.size=B+5:=by rw[← hW0,← hBe];simp
 have hB0:Below B w W0:=by rw[← hW0,← hBe];exact((((zr.alloc lr _).alloc (by simp) _).alloc (by simp;omega) _).alloc (by simp;omega) _).alloc (by simp;omega) _
 rw[hW0]
 simp only [hBe,Nat.add_assoc,Nat.reduceAdd]
 clear hW0
 have hlenS:=items_length s
 refine wpIn_rangeFunc_ownG rfl (by omega) (gf:=108) (lb:=#[.pointer (some ⟨B+4,0,none⟩)]) (by simp[go_sem]) trivial (enters_of func108 (by kernel_rfl) rfl)
  (chars_stops (B+4) s (by omega) W0 b4.lt b4.cell) kpB_t (kpB_b b4.lt) zr (fun _=>rfl)
  (fun pre W=>((∃ v,Boxed W (B+3) 42 v∧W.ownsRow (B+3) 3 1 v (ptsOf pre).length (nv (ptsOf pre))∧Good pre)∧(Boxed W B 42 (.slice none 0 0)∧Boxed W (B+1) 41 (.int .i64 0)∧Boxed W (B+2) 3 (.int .i64 0)∧Boxed W (B+4) 9 (.string s)))∧Below B w W)
  (fun c pre W=>(c=.ret∧∃ a,Bad pre a∧Boxed W B 42 (.slice none 0 0)∧Boxed W (B+1) 41 (.int .i64 30)∧Boxed W (B+2) 3 (.int .i64 a))∧Below B w W)
  (OwnFrom.and (OwnFrom.and (Own.from (holdsRow_own (B+3) (B+3) 42 3 1 (fun pre=>(ptsOf pre).length) (fun pre=>nv (ptsOf pre)) (fun pre _=>Good pre)) _)
   (Own.from (fun s A B' row hs hg hr=>⟨boxk hs.1 hg hr,boxk hs.2.1 hg hr,boxk hs.2.2.1 hg hr,boxk hs.2.2.2 hg hr⟩) _)) (ownFrom_below (by omega) (by omega)))
  (fun c=>OwnFrom.and (Own.from (fun s A B' row hs hg hr=>by obtain⟨hc,a,e1,e2,e3,e4⟩:=hs;exact⟨hc,a,e1,boxk e2 hg hr,boxk e3 hg hr,boxk e4 hg hr⟩) _) (ownFrom_below (by omega) (by omega)))
  ⟨⟨⟨_,b3,World.ownsRow_nil _ _ _ _,Good.nil⟩,b0,b1,b2,b4⟩,hB0⟩
  (fun x=>{ tmps:=#[.string s,undef,.pointer (some ⟨B,0,none⟩),.pointer (some ⟨B+1,0,none⟩),.pointer (some ⟨B+2,0,none⟩),.pointer (some ⟨B+3,0,none⟩),.int .i64 x.1,.int .i64 x.2,.string s,.func (.func 108) #[] #[.pointer (some ⟨B+4,0,none⟩)],.int .i64 x.1,.int .i64 x.2,undef,undef,undef,undef,undef,undef,undef,undef],defers:=[] }) ?assign ?body ?done ?stop
 case assign =>
  intro l x W K hK
  gi_wp2
  exact hK
 case body =>
  rintro l pre x W ⟨⟨⟨v,hv,hrow,hgood⟩,r0,r1,r2,r4⟩,hB⟩ hlt
  have hc:=hv.cell
  have hpl:(ptsOf pre).length=pre.length:=by simp[ptsOf]
  have c0:=r0.cell
  have c1:=r1.cell
  have c2:=r2.cell
  have f0:=r0.frozen
  have f1:=r1.frozen
  have f2:=r2.frozen
  gi_wp2_with (gi_at_builtin;refine wpListIn_append_own _ rfl _ _ 42 rfl (B+3) 3 i0 (.int .i64 0) 1 8 underlying42 hi hz0 hz1 hz2 rfl (by decide) _ _ _ rfl (hrow.alloc _) ⟨W.heap.size,0,none⟩ 1 1 [.int .i64 x.2] rfl rfl (cell_one_new _ _ _) (by simp[Value.oneCell']) (len16 (by omega)) (by omega) (by have:=hv.lt;simp;omega) ?_;intro v' w1 hown' hgrow _;obtain⟨g',cap',rfl⟩:=ownsRow_succ hown';obtain⟨hv1,hv2,hr2,hk2,hb2⟩:=hv.appended (by decide) hrow (by have:=hv.lt;omega) lr hown' hgrow;have hc1:=hv1.cell;have hf1:=hv1.frozen)
  · have hx:x.2<0:=by assumption
    refine⟨(((KeepsOthers.setCell _ _ _).trans (KeepsOthers.setCell _ _ _)).trans (KeepsOthers.setCell _ _ _)).from _,⟨rfl,x.1,hgood.bad hx,?_,?_,?_⟩,?_⟩
    · exact((r0.set _).other (by omega) _).other (by omega) _
    · exact(((r1.other (by omega) _).set _).other (by omega) _)
    · exact((r2.other (by omega) _).other (by omega) _).set _
    · exact((hB.setCell (p:=⟨B,0,none⟩) lr _).setCell (p:=⟨B+1,0,none⟩) (Nat.le_succ _) _).setCell (p:=⟨B+2,0,none⟩) (by show B≤B+2;omega) _
  · have hx:0≤x.2:=by assumption
    have r4':Boxed (w1.setCell ⟨B+3,0,none⟩ (.slice (some ⟨g',0,none⟩) (pre.length+1) cap')) (B+4) 9 (.string s):=((r4.alloc _).kept hgrow (r4.not_row (by decide) hrow)).other (by omega) _
    have hps:ptsOf (pre++[x])=ptsOf pre++[x.2]:=by simp[ptsOf]
    rw[hpl] at hv2 hr2 hk2 hb2
    refine⟨hk2.from _,r4'.cell.trans r4.cell.symm,⟨⟨_,hv2,?_,hgood.snoc hx⟩,(hb2.block _ (by omega)).trans r0,(hb2.block _ (by omega)).trans r1,(hb2.block _ (by omega)).trans r2,r4'⟩,hB.trans (hb2.mono (by omega))⟩
    rw[hps,List.length_append,hpl]
    simpa[nv] using hr2
 case done =>
  rintro D ys W hD rfl ⟨⟨⟨v,hv,hrow,hgood⟩,r0,r1,r2,r4⟩,hB⟩ hK
  obtain⟨a,cap,rfl⟩:=row_slice hrow
  have hc:=hv.cell
  have c0:=r0.cell
  have c1:=r1.cell
  have c2:=r2.cell
  have f0:=r0.frozen
  have f1:=r1.frozen
  have f2:=r2.frozen
  gi_wp2
  have hKs:KeepsOthers W (((W.setCell ⟨B,0,none⟩ (.slice a (ptsOf (items s)).length cap)).setCell ⟨B+1,0,none⟩ (.int .i64 0)).setCell ⟨B+2,0,none⟩ (.int .i64 0)):=((KeepsOthers.setCell _ _ _).trans (KeepsOthers.setCell _ _ _)).trans (KeepsOthers.setCell _ _ _)
  have p0:Boxed (((W.setCell ⟨B,0,none⟩ (.slice a (ptsOf (items s)).length cap)).setCell ⟨B+1,0,none⟩ (.int .i64 0)).setCell ⟨B+2,0,none⟩ (.int .i64 0)) B 42 (.slice a (ptsOf (items s)).length cap):=((r0.set _).other (show B≠B+1 by omega) _).other (show B≠B+2 by omega) _
  have p1:Boxed (((W.setCell ⟨B,0,none⟩ (.slice a (ptsOf (items s)).length cap)).setCell ⟨B+1,0,none⟩ (.int .i64 0)).setCell ⟨B+2,0,none⟩ (.int .i64 0)) (B+1) 41 (.int .i64 0):=((r1.other (show B+1≠B by omega) _).set _).other (show B+1≠B+2 by omega) _
  have p2:Boxed (((W.setCell ⟨B,0,none⟩ (.slice a (ptsOf (items s)).length cap)).setCell ⟨B+1,0,none⟩ (.int .i64 0)).setCell ⟨B+2,0,none⟩ (.int .i64 0)) (B+2) 3 (.int .i64 0):=((r2.other (show B+2≠B by omega) _).other (show B+2≠B+1 by omega) _).set _
  have hbb:Below B W (((W.setCell ⟨B,0,none⟩ (.slice a (ptsOf (items s)).length cap)).setCell ⟨B+1,0,none⟩ (.int .i64 0)).setCell ⟨B+2,0,none⟩ (.int .i64 0)):=(((Below.refl B W).setCell (p:=⟨B,0,none⟩) lr _).setCell (p:=⟨B+1,0,none⟩) (Nat.le_succ _) _).setCell (p:=⟨B+2,0,none⟩) (by show B≤B+2;omega) _
  have ho3:OwnN (((W.setCell ⟨B,0,none⟩ (.slice a (ptsOf (items s)).length cap)).setCell ⟨B+1,0,none⟩ (.int .i64 0)).setCell ⟨B+2,0,none⟩ (.int .i64 0)) (B+3) (.slice a (ptsOf (items s)).length cap) (ptsOf (items s)) :=
   keep_row (keep_row (keep_row hrow (by omega)) (by omega)) (by omega)
  generalize ((W.setCell ⟨B,0,none⟩ (.slice a (ptsOf (items s)).length cap)).setCell ⟨B+1,0,none⟩ (.int .i64 0)).setCell ⟨B+2,0,none⟩ (.int .i64 0)=W3 at hKs p0 p1 p2 hbb ho3 ⊢
  have hK':=hKs.same D _ hK rfl
  refine⟨by simp,.inl ⟨_,_,rfl,run_takeDeferred hK',?_⟩⟩
  have q0:=(boxk p0 (grownBy_putObj' _ D (.deferred none)) (fun r e=>by cases e;exact⟨_,hK',rfl⟩)).cell
  have q1:=(boxk p1 (grownBy_putObj' _ D (.deferred none)) (fun r e=>by cases e;exact⟨_,hK',rfl⟩)).cell
  have q2:=(boxk p2 (grownBy_putObj' _ D (.deferred none)) (fun r e=>by cases e;exact⟨_,hK',rfl⟩)).cell
  have hDB:=belowK_b (w:=w) lr W3 D (.deferred (some [])) (.deferred none) (by omega) hK' rfl rfl
  refine⟨.tuple #[.slice a (ptsOf (items s)).length cap,.int .i64 0,.int .i64 0],by simp[results,Tryz.f200,go_sem,q0,q1,q2],?_,.inl ⟨hgood,_,rfl,?_⟩⟩
  · have:=hB.trans hbb
    rw[← hBe] at this
    exact this.trans hDB
  · exact OwnN.low (ownsRow_putObj ho3 _ hK' rfl) (by omega)
 case stop =>
  rintro D c pre W hD hpre ⟨⟨rfl,a,hbad,r0,r1,r2⟩,hB⟩ hK
  gi_wp2
  refine⟨by simp,.inl ⟨_,_,rfl,run_takeDeferred hK,?_⟩⟩
  have q0:=(boxk r0 (grownBy_putObj' _ D (.deferred none)) (fun r e=>by cases e;exact⟨_,hK,rfl⟩)).cell
  have q1:=(boxk r1 (grownBy_putObj' _ D (.deferred none)) (fun r e=>by cases e;exact⟨_,hK,rfl⟩)).cell
  have q2:=(boxk r2 (grownBy_putObj' _ D (.deferred none)) (fun r e=>by cases e;exact⟨_,hK,rfl⟩)).cell
  have hDB:=belowK_b (w:=w) lr W D (.deferred (some [])) (.deferred none) (by omega) hK rfl rfl
  refine⟨.tuple #[.slice none 0 0,.int .i64 30,.int .i64 a],by simp[results,Tryz.f200,go_sem,q0,q1,q2],?_,.inr ⟨a,checkS_some hpre hbad,?_,rfl⟩⟩
  · rw[← hBe] at hB
    exact hB.trans hDB
  · exact hbad.not_good hpre
end U
namespace Lo
open D (isI64)
def GBru (w:World):Prop:=w.cell? ⟨10,15,none⟩=some (.int .u8 4)
theorem GBru.later {w w':World} (h:GBru w) (hb:Below w.heap.size w w'):GBru w':=(hb.cell (p:=⟨10,15,none⟩) (World.block_lt_of_cell? _ _ h)).trans h
theorem tz64 (w:World) (hg:GBru w):Calls prog 233 #[.int .u64 16] w fun e w'=>e=.returned (.int .i64 4)∧w'=w:=by
 have hc:w.cell? ⟨10,15,none⟩=some (.int .u8 4):=hg
 have h1:bits .and .u64 16 18446744073709551600=16:=by decide
 have h2:IntKind.u64.wrap (-16)=18446744073709551600:=by rw[IntKind.wrap_u64];decide
 clear hg
 go_enter func233,ntmps233
 go_wp2_with fail
 go_ret
 exact⟨rfl,rfl⟩
theorem tz (w:World) (hg:GBru w):Calls prog 216 #[.int .u64 16] w fun e w'=>e=.returned (.int .i64 4)∧w'=w:=by
 have H:=zh (tz64 w hg)
 clear hg
 go_enter func216,ntmps216
 go_wp2_with fail
 refine H.out.mono ?_
 rintro e w' ⟨rfl,rfl⟩
 go_wp2_with fail
 go_ret
 exact⟨rfl,rfl⟩
theorem pow2_16 (w:World):Calls prog 215 #[.int .i64 16] w fun e w'=>e=.returned (.bool true)∧w'=w:=by
 have h1:bits .and .i64 16 15=0:=by decide
 go_enter func215,ntmps215
 go_wp2_with fail
 go_ret
 exact⟨rfl,rfl⟩
def bcells (l:List UInt8):Array Value:=(l.map fun c=>Value.int .u8 (c.toNat:Int)).toArray
def Asc (l:List UInt8):Prop:=∀ c∈l,c.toNat<128
def digs:ByteArray:=⟨#[48,49,50,51,52,53,54,55,56,57,97,98,99,100,101,102,103,104,105,106,107,108,109,110,111,112,113,114,115,116,117,118,119,120,121,122]⟩
theorem zero65:Tryz.zeroCells352=bcells (List.replicate 65 0):=by kernel_rfl
theorem bcells_set (L:List UInt8) (i:Nat) (c:UInt8):(bcells L).setIfInBounds i (.int .u8 (c.toNat:Int))=bcells (L.set i c):=by
 unfold bcells
 rw[List.setIfInBounds_toArray,List.map_set]
theorem asc_set {L:List UInt8} (h:Asc L) {c:UInt8} (hc:c.toNat<128) (i:Nat):Asc (L.set i c):=by
 intro x hx
 rcases List.mem_or_eq_of_mem_set hx with hx | rfl
 · exact h x hx
 · exact hc
theorem asc_digs {y:Nat} (h:y<digs.size):digs[y].toNat<128:=by
 have key:∀ c∈digs.data.toList,c.toNat<128:=by decide
 exact key _ (by rw[ByteArray.getElem_eq_getElem_data];exact List.mem_of_getElem? (i:=y) (by simp))
theorem bcell {w:World} {B j:Nat} {T:TypeId} {L:List UInt8} (h:Blk w B T (bcells L)) (hj:j<L.length):∃ v,w.cell? ⟨B,j,none⟩=some v:=by
 refine⟨.int .u8 (L[j].toNat:Int),(h.cell j).trans ?_⟩
 simp[bcells,List.getElem?_eq_getElem hj]
theorem slice65 (B k:Nat) (hk:k<65) (W:World):(Instr.sliceAt 352 (.pointer (some ⟨B,0,none⟩)) (some (.int .i64 (k:Int))) none none).run prog W=.ok (.slice (some ⟨B,k,none⟩) (65-k) (65-k)) W:=by
 have e1:prog.arrayLen 352=65:=by kernel_rfl
 have e2:prog.elem 352=5:=by kernel_rfl
 have hu:prog.underlying 352=some (.array (prog.arrayLen 352) (prog.elem 352)):=by kernel_rfl
 rw[run_sliceAt_array_l W 352 ⟨B,0,none⟩ hu .i64 (k:Int) (by omega) (by rw[e1];omega),e1,e2,Tryz.sizeOf5]
 simp only [Result.andThen,slicedAt,Int.toNat_natCast,Nat.mul_one]
 rw[if_neg (by omega)]
 by_cases h0:k=0
 · subst h0;rfl
 · simp[Addr.add,h0]
theorem conv65 (B k:Nat) (W:World) (T:TypeId) (L:List UInt8) (h:Blk W B T (bcells L)) (hL:L.length=65) (hk:k<65) :
 (convert 99 9 (.slice (some ⟨B,k,none⟩) (65-k) (65-k))).run prog W=.ok (.string ⟨(L.drop k).toArray⟩) W:=by
 have:=run_convert_bytes_back (P:=prog) W 99 9 5 ⟨B,k,none⟩ (65-k) (L.drop k) underlying99 underlying5 underlying9 (fun j hj=>by
  rw[List.length_drop] at hj
  have h2:=h.cell (k+j)
  rw[show (⟨B,k,none⟩:Addr).add j=⟨B,k+j,none⟩ by by_cases h0:j=0<;>simp[Addr.add,h0],h2]
  simp[bcells,List.getElem?_eq_getElem (show k+j<L.length by omega)])
 rwa [List.length_drop,hL] at this
theorem asc_drop {L:List UInt8} (h:Asc L) (k:Nat):Asc (L.drop k):=fun c hc=>h c (List.mem_of_mem_drop hc)
theorem fb_true (u:Int) (w:World) (h0:0≤u) (h1:u≤18446744073709551615) (hg:GBru w) :
 Calls prog 191 #[.slice none 0 0,.int .u64 u,.int .i64 16,.bool true,.bool false] w fun e w'=>∃ p:ByteArray,e=.returned (.tuple #[.slice none 0 0,.string p])∧Asc p.data.toList∧p.size≤65∧Below w.heap.size w w':=by
 have HG:=zh hg
 obtain⟨u2,hu2⟩:∃ u2,IntKind.u64.wrap (-u)=u2:=⟨_,rfl⟩
 have hb:0≤u2∧u2≤18446744073709551615:=by rw[← hu2,IntKind.wrap_u64];omega
 obtain⟨hb0,hb1⟩:=hb
 clear hg
 go_enter func191,ntmps191
 go_wp2_with (first
  | (go_at_call 215;refine(pow2_16 _).mono ?_;rintro e w1 ⟨rfl,rfl⟩)
  | (go_at_call 216;refine(tz _ (HG.out.later (zr.alloc lr _))).mono ?_;rintro e w1 ⟨rfl,rfl⟩))
 clear hu2
 have hblk:=Blk.new w 352 (bcells (List.replicate 65 0))
 rw[← zero65] at hblk
 go_loopw [1,13] (fun uv iv wr=>∃ (i:Nat) (x:Int) (L:List UInt8),uv=.int .u64 x∧iv=.int .i64 i∧50≤i∧i≤65∧0≤x∧x≤18446744073709551615∧RowKit.Hid (x<16 ^ (i-49))∧RowKit.Hid (Blk wr w.heap.size 352 (bcells L))∧L.length=65∧RowKit.Hid (Asc L)∧RowKit.Hid (Below w.heap.size w wr)) (fun _ i _=>(intOf i).toNat)
 case atStart=>exact⟨65,u2,List.replicate 65 0,rfl,rfl,by omega,by omega,hb0,hb1,zh (by show u2<16 ^ 16;omega),zh (zero65▸hblk),rfl,zh (fun c hc=>by rw[List.eq_of_mem_replicate hc];decide),zh (zr.alloc lr _)⟩
 case round =>
  obtain⟨i,x,L,rfl,rfl,hi0,hi1,hx0,hx1,HX,HB,hL,HA,HW⟩:=hrel
  by_cases hge:16≤x
  · obtain⟨j,rfl⟩:∃ j,i=j+1:=⟨i-1,by omega⟩
    have hj:50≤j:=by
     rcases Nat.lt_or_ge j 50 with h | h
     · have h2:=HX.out
       obtain rfl:j=49:=by omega
       have h3:x<16:=h2
       omega
     · exact h
    obtain⟨y,hy⟩:∃ y,bits .and .u64 x 15=y:=⟨_,rfl⟩
    have hy0:0≤y∧y≤15:=by
     have h:=bits_and_u64_nat x.toNat 15 (by omega) (by omega)
     rw[Int.toNat_of_nonneg hx0] at h
     have h2:x.toNat &&& 15≤15:=Nat.and_le_right
     rw[← hy,show (15:Int)=((15:Nat):Int) from rfl,h]
     omega
    obtain⟨hy0,hy1⟩:=hy0
    obtain⟨v,cj⟩:=bcell HB.out (j:=j) (by omega)
    have hfz:=HB.out.frozen j
    clear hblk
    go_wp2_with fail
    have hyl:y.toNat<digs.size:=by show y.toNat<36;omega
    have hset:=HB.out.set_ j (.int .u8 ((digs[y.toNat]'hyl).toNat:Int))
    rw[bcells_set] at hset
    refine⟨⟨j,x / 16,L.set j (digs[y.toNat]'hyl),rfl,rfl,hj,by omega,by omega,by omega,zh ?_,zh hset,by simp[hL],zh (asc_set HA.out (asc_digs hyl) j),zh (HW.out.setCell (p:=⟨w.heap.size,j,none⟩) lr _)⟩,by simp[intOf]⟩
    have h2:=HX.out
    rw[show j+1-49=(j-49)+1 by omega,Int.pow_succ] at h2
    exact Int.ediv_lt_of_lt_mul (by decide) h2
  · obtain⟨k,rfl⟩:∃ k,i=k+1+1:=⟨i-2,by omega⟩
    have hx15:x≤15:=by omega
    obtain⟨v,cj⟩:=bcell HB.out (j:=k+1) (by omega)
    obtain⟨v2,cj2⟩:=bcell HB.out (j:=k) (by omega)
    have hfz:=HB.out.frozen (k+1)
    have hfz2:=HB.out.frozen k
    have hkn:k+1≠k:=by omega
    have hxl:x.toNat<digs.size:=by show x.toNat<36;omega
    have b1:=HB.out.set_ (k+1) (.int .u8 ((digs[x.toNat]'hxl).toNat:Int))
    rw[bcells_set] at b1
    have b2:=b1.set_ k (.int .u8 ((45:UInt8).toNat:Int))
    rw[bcells_set] at b2
    have HA2:=zh (asc_drop (asc_set (asc_set HA.out (asc_digs hxl) (k+1)) (c:=45) (by decide) k) k)
    have hcv:=conv65 _ k _ _ _ b2 (by simp[hL]) (by omega)
    have hsl:=slice65 w.heap.size k (by omega)
    have hB2:=(HW.out.setCell (p:=⟨w.heap.size,k+1,none⟩) lr (.int .u8 ((digs[x.toNat]'hxl).toNat:Int))).setCell (p:=⟨w.heap.size,k,none⟩) lr (.int .u8 ((45:UInt8).toNat:Int))
    have HB2:=zh hB2
    clear hblk hge b1 b2 hB2
    go_wp2_with fail
    erw[hcv]
    go_wp2_with fail
    go_ret2
    exact⟨_,rfl,HA2.out,by show ((L.set (k+1) _).set k 45 |>.drop k).toArray.size≤65;simp;omega,HB2.out⟩
theorem fb_false (u:Int) (w:World) (h0:0≤u) (h1:u≤18446744073709551615) (hg:GBru w) :
 Calls prog 191 #[.slice none 0 0,.int .u64 u,.int .i64 16,.bool false,.bool false] w fun e w'=>∃ p:ByteArray,e=.returned (.tuple #[.slice none 0 0,.string p])∧Asc p.data.toList∧p.size≤65∧Below w.heap.size w w':=by
 have HG:=zh hg
 clear hg
 go_enter func191,ntmps191
 go_wp2_with (first
  | (go_at_call 215;refine(pow2_16 _).mono ?_;rintro e w1 ⟨rfl,rfl⟩)
  | (go_at_call 216;refine(tz _ (HG.out.later (zr.alloc lr _))).mono ?_;rintro e w1 ⟨rfl,rfl⟩))
 have hblk:=Blk.new w 352 (bcells (List.replicate 65 0))
 rw[← zero65] at hblk
 go_loopw [1,13] (fun uv iv wr=>∃ (i:Nat) (x:Int) (L:List UInt8),uv=.int .u64 x∧iv=.int .i64 i∧50≤i∧i≤65∧0≤x∧x≤18446744073709551615∧RowKit.Hid (x<16 ^ (i-49))∧RowKit.Hid (Blk wr w.heap.size 352 (bcells L))∧L.length=65∧RowKit.Hid (Asc L)∧RowKit.Hid (Below w.heap.size w wr)) (fun _ i _=>(intOf i).toNat)
 case atStart=>exact⟨65,u,List.replicate 65 0,rfl,rfl,by omega,by omega,h0,h1,zh (by show u<16 ^ 16;omega),zh (zero65▸hblk),rfl,zh (fun c hc=>by rw[List.eq_of_mem_replicate hc];decide),zh (zr.alloc lr _)⟩
 case round =>
  obtain⟨i,x,L,rfl,rfl,hi0,hi1,hx0,hx1,HX,HB,hL,HA,HW⟩:=hrel
  by_cases hge:16≤x
  · obtain⟨j,rfl⟩:∃ j,i=j+1:=⟨i-1,by omega⟩
    have hj:50≤j:=by
     rcases Nat.lt_or_ge j 50 with h | h
     · have h2:=HX.out
       obtain rfl:j=49:=by omega
       have h3:x<16:=h2
       omega
     · exact h
    obtain⟨y,hy⟩:∃ y,bits .and .u64 x 15=y:=⟨_,rfl⟩
    have hy0:0≤y∧y≤15:=by
     have h:=bits_and_u64_nat x.toNat 15 (by omega) (by omega)
     rw[Int.toNat_of_nonneg hx0] at h
     have h2:x.toNat &&& 15≤15:=Nat.and_le_right
     rw[← hy,show (15:Int)=((15:Nat):Int) from rfl,h]
     omega
    obtain⟨hy0,hy1⟩:=hy0
    obtain⟨v,cj⟩:=bcell HB.out (j:=j) (by omega)
    have hfz:=HB.out.frozen j
    clear hblk
    go_wp2_with fail
    have hyl:y.toNat<digs.size:=by show y.toNat<36;omega
    have hset:=HB.out.set_ j (.int .u8 ((digs[y.toNat]'hyl).toNat:Int))
    rw[bcells_set] at hset
    refine⟨⟨j,x / 16,L.set j (digs[y.toNat]'hyl),rfl,rfl,hj,by omega,by omega,by omega,zh ?_,zh hset,by simp[hL],zh (asc_set HA.out (asc_digs hyl) j),zh (HW.out.setCell (p:=⟨w.heap.size,j,none⟩) lr _)⟩,by simp[intOf]⟩
    have h2:=HX.out
    rw[show j+1-49=(j-49)+1 by omega,Int.pow_succ] at h2
    exact Int.ediv_lt_of_lt_mul (by decide) h2
  · obtain⟨k,rfl⟩:∃ k,i=k+1:=⟨i-1,by omega⟩
    have hx15:x≤15:=by omega
    obtain⟨v2,cj2⟩:=bcell HB.out (j:=k) (by omega)
    have hfz2:=HB.out.frozen k
    have hxl:x.toNat<digs.size:=by show x.toNat<36;omega
    have b2:=HB.out.set_ k (.int .u8 ((digs[x.toNat]'hxl).toNat:Int))
    rw[bcells_set] at b2
    have HA2:=zh (asc_drop (asc_set HA.out (asc_digs hxl) k) k)
    have hcv:=conv65 _ k _ _ _ b2 (by simp[hL]) (by omega)
    have hsl:=slice65 w.heap.size k (by omega)
    have hB2:=HW.out.setCell (p:=⟨w.heap.size,k,none⟩) lr (.int .u8 ((digs[x.toNat]'hxl).toNat:Int))
    have HB2:=zh hB2
    clear hblk hge b2 hB2
    go_wp2_with fail
    erw[hcv]
    go_wp2_with fail
    go_ret2
    exact⟨_,rfl,HA2.out,by show ((L.set k _).drop k).toArray.size≤65;simp;omega,HB2.out⟩
def strLen:Value→Nat
 | .string s=>s.size
 | _=>0
theorem nought_size (s:ByteArray):((⟨#[48]⟩:ByteArray)++s).size=s.size+1:=by
 rw[ByteArray.size_append]
 show 1+s.size=_
 omega
theorem FormatIntIn_any (x:Int) (w:World) (hx:isI64 x) (hg:GBru w):Calls prog 159 #[.int .i64 x,.int .i64 16] w fun e w'=>∃ p:ByteArray,e=.returned (.string p)∧Asc p.data.toList∧p.size≤65∧Below w.heap.size w w':=by
 have hw:IntKind.u64.wrap x=x % 18446744073709551616:=IntKind.wrap_u64 x
 obtain⟨u,hu⟩:∃ u,x % 18446744073709551616=u:=⟨_,rfl⟩
 have hb:0≤u∧u≤18446744073709551615:=by omega
 rw[hu] at hw
 have HT:=zh (fb_true u w hb.1 hb.2 hg)
 have HF:=zh (fb_false u w hb.1 hb.2 hg)
 clear hu hb hg hx
 by_cases hn:x<0
 · have q1:decide (x<0)=true:=decide_eq_true hn
   clear hn
   go_enter func159,ntmps159
   go_wp2_with fail
   refine HT.out.mono ?_
   rintro e w1 ⟨p,rfl,h1,h2,h3⟩
   go_wp2_with fail
   go_ret
   exact⟨p,rfl,h1,h2,h3⟩
 · have q1:decide (x<0)=false:=decide_eq_false hn
   clear hn
   go_enter func159,ntmps159
   go_wp2_with fail
   refine HF.out.mono ?_
   rintro e w1 ⟨p,rfl,h1,h2,h3⟩
   go_wp2_with fail
   go_ret
   exact⟨p,rfl,h1,h2,h3⟩
theorem FormatInt_any (x:Int) (w:World) (hx:isI64 x) (hg:GBru w):Calls prog 122 #[.int .i64 x,.int .i64 16] w fun e w'=>∃ p:ByteArray,e=.returned (.string p)∧Asc p.data.toList∧p.size≤65∧Below w.heap.size w w':=by
 have H:=zh (FormatIntIn_any x w hx hg)
 clear hx hg
 go_enter func122,ntmps122
 go_wp2_with fail
 refine H.out.mono ?_
 rintro e w1 ⟨p,rfl,h1,h2,h3⟩
 go_wp2_with fail
 go_ret
 exact⟨p,rfl,h1,h2,h3⟩
theorem digits_any (x:Int) (w:World) (hx:isI64 x) (hg:GBru w):Calls prog 113 #[.int .i64 x] w fun e w'=>∃ p:ByteArray,e=.returned (.string p)∧p.size≤65∧Below w.heap.size w w':=by
 have H:=zh (FormatInt_any x w hx hg)
 clear hx hg
 go_enter func113,ntmps113
 go_wp2_with fail
 refine H.out.mono ?_
 rintro e w1 ⟨p,rfl,h1,h2,h3⟩
 have HB:=zh h3
 have HU:=zh (Tryz.strings_ToUpper_ascii p w1 (by omega) (fun j b hb=>h1 b (List.mem_of_getElem? hb)))
 have hsz:(Lib.toUpperA p.data.toList).length≤65:=by unfold Lib.toUpperA;rw[List.length_map];exact h2
 have HS:=zh hsz
 clear h1 h2 h3 hsz
 go_wp2_with fail
 refine HU.out.mono ?_
 rintro e w2 ⟨rfl,hb2⟩
 obtain⟨q,hq⟩:∃ q:ByteArray,q=⟨(Lib.toUpperA p.data.toList).toArray⟩:=⟨_,rfl⟩
 have hqs:q.size≤65:=by rw[hq];show (Lib.toUpperA p.data.toList).toArray.size≤65;simpa using HS.out
 rw[← hq]
 have HB2:=zh (HB.out.trans (hb2.mono HB.out.size))
 clear hq hb2
 go_wp2_with fail
 go_loop [3] (fun v=>∃ s:ByteArray,v=.string s∧s.size≤65) (fun v=>100-strLen v)
 case atStart=>exact⟨q,rfl,hqs⟩
 case round =>
  obtain⟨s,rfl,hs⟩:=hrel
  by_cases h4:s.size<4
  · have q1:decide ((s.size:Int)<4)=true:=decide_eq_true (by omega)
    go_wp2_with fail
    have hz:=nought_size s
    refine⟨⟨_,rfl,by rw[hz];omega⟩,?_⟩
    show 100-(⟨#[48]⟩++s:ByteArray).size<100-s.size
    rw[hz]
    omega
  · have q1:decide ((s.size:Int)<4)=false:=decide_eq_false (by omega)
    go_wp2_with fail
    go_ret
    exact⟨s,rfl,hs,HB2.out⟩
theorem hex_any (x:Int) (w:World) (hx:isI64 x) (hg:GBru w):Calls prog 93 #[.int .i64 x] w fun e w'=>∃ p:ByteArray,e=.returned (.string p)∧p.size≤65∧Below w.heap.size w w':=by
 have H:=zh (FormatInt_any x w hx hg)
 clear hx hg
 go_enter func93,ntmps93
 go_wp2_with fail
 refine H.out.mono ?_
 rintro e w1 ⟨p,rfl,h1,h2,h3⟩
 have HB:=zh h3
 have HU:=zh (Tryz.strings_ToUpper_ascii p w1 (by omega) (fun j b hb=>h1 b (List.mem_of_getElem? hb)))
 have hsz:(Lib.toUpperA p.data.toList).length≤65:=by unfold Lib.toUpperA;rw[List.length_map];exact h2
 have HS:=zh hsz
 clear h1 h2 h3 hsz
 go_wp2_with fail
 refine HU.out.mono ?_
 rintro e w2 ⟨rfl,hb2⟩
 obtain⟨q,hq⟩:∃ q:ByteArray,q=⟨(Lib.toUpperA p.data.toList).toArray⟩:=⟨_,rfl⟩
 have hqs:q.size≤65:=by rw[hq];show (Lib.toUpperA p.data.toList).toArray.size≤65;simpa using HS.out
 rw[← hq]
 have HB2:=zh (HB.out.trans (hb2.mono HB.out.size))
 clear hq hb2
 go_wp2_with fail
 go_loop [3] (fun v=>∃ s:ByteArray,v=.string s∧s.size≤65) (fun v=>100-strLen v)
 case atStart=>exact⟨q,rfl,hqs⟩
 case round =>
  obtain⟨s,rfl,hs⟩:=hrel
  by_cases h4:s.size<4
  · have q1:decide ((s.size:Int)<4)=true:=decide_eq_true (by omega)
    go_wp2_with fail
    have hz:=nought_size s
    refine⟨⟨_,rfl,by rw[hz];omega⟩,?_⟩
    show 100-(⟨#[48]⟩++s:ByteArray).size<100-s.size
    rw[hz]
    omega
  · have q1:decide ((s.size:Int)<4)=false:=decide_eq_false (by omega)
    go_wp2_with fail
    go_ret
    exact⟨s,rfl,hs,HB2.out⟩
