import Derived.Test.YtcgnajeenflfaaaGreatDoorP29
set_option maxRecDepth 100000
set_option maxHeartbeats 4000000
set_option linter.all false
open Go.Proofs.Tryz Go.RowKit
namespace Go.Proofs.YtcgnajeenflfaaaGreatDoor
namespace Sc
open V (Same Pt VI mayB mayB_ok)
open We (Co)
theorem fieldRefused_any (f:Fd) (a:Option Addr) (c:Nat) (t:Addr) (w:World) (hff:FFit f) (hfi:FI w 0 w.heap.size f.fields (.slice a f.fields.length c)) :
 Calls prog 39 #[.pointer (some t),.agg (fcells f (.slice a f.fields.length c)).toArray] w (ErrPost (okS 65536 [f]) w):=by
 have H1:=zh (show ∀ o,Calls prog 27 #[.agg #[.int .i64 65536,.slice (some ⟨w.heap.size+1,0,none⟩) 1 1]] ((w.alloc o).alloc (.cells (fcells f (.slice a f.fields.length c)).toArray 79)) (SPost (okS 65536 [f]) ((w.alloc o).alloc (.cells (fcells f (.slice a f.fields.length c)).toArray 79))) from fun o=>by
  have:=one_any f a c (w.alloc o) hff (fi_later hfi (zr.alloc lr o))
  rwa [World.size_alloc] at this)
 obtain⟨X,hX⟩:∃ X,okS 65536 [f]=X:=⟨_,rfl⟩
 obtain⟨m,hm⟩:∃ m,f.fields.length=m:=⟨_,rfl⟩
 rw[hX,hm] at H1
 rw[hX,hm]
 rw[fcells_14] at H1 ⊢
 clear hX hm hfi hff
 cases X with
 | true =>
  go_enter func39,ntmps39
  go_wp2_with (go_at_call 27;refine(H1.out _).mono ?_;intro e w1 he;obtain⟨rfl,hb1⟩:=he.yes;have HB:=zh (((zr.alloc lr _).alloc (by simp) _).trans (hb1.mono (by simp;omega))))
  go_ret
  exact ErrPost.ok HB.out
 | false =>
  go_enter func39,ntmps39
  go_wp2_with (go_at_call 27;refine(H1.out _).mono ?_;intro e w1 he;obtain⟨⟨fb,rfl⟩,hb1⟩:=he.no;have HB:=zh (((zr.alloc lr _).alloc (by simp) _).trans (hb1.mono (by simp;omega))))
  go_ret
  exact ErrPost.new rfl HB.out (.inr ⟨_,_,rfl⟩)
theorem null_any (f:Fd) (a:Option Addr) (n c:Nat) (w:World):Calls prog 67 #[.agg (fcells f (.slice a n c)).toArray] w fun e w'=>e=.returned (.int .u8 ((nullB f).toNat:Int))∧Below w.heap.size w w':=by
 rw[fcells_14]
 unfold nullB
 by_cases h:f.nulls=1
 · have q:((f.nulls:Int)==1)=true:=by simp;omega
   rw[if_pos h]
   clear h
   go_enter func67,ntmps67
   go_wp2_with fail
   go_ret
   exact⟨rfl,zr.alloc lr _⟩
 · have q:((f.nulls:Int)==1)=false:=by simp;omega
   rw[if_neg h]
   clear h
   go_enter func67,ntmps67
   go_wp2_with fail
   go_ret
   exact⟨rfl,zr.alloc lr _⟩
theorem tag_any (f:Fd) (hk:f.kind≤7) (a:Option Addr) (n c:Nat) (w:World):Calls prog 68 #[.agg (fcells f (.slice a n c)).toArray] w fun e w'=>e=.returned (.int .u8 ((tagB f).toNat:Int))∧Below w.heap.size w w':=by
 rw[fcells_14]
 unfold tagB
 rw[u8n _ (by split<;>omega)]
 cases hd:f.down with
 | true =>
  obtain⟨k,hk2⟩:∃ k,f.kind=k:=⟨_,rfl⟩
  rw[hk2] at hk ⊢
  clear hd hk2
  go_enter func68,ntmps68
  go_wp2_with fail
  go_ret
  refine⟨?_,zr.alloc lr _⟩
  simp
  try omega
 | false =>
  obtain⟨k,hk2⟩:∃ k,f.kind=k:=⟨_,rfl⟩
  rw[hk2] at hk ⊢
  clear hd hk2
  go_enter func68,ntmps68
  go_wp2_with fail
  go_ret
  refine⟨?_,zr.alloc lr _⟩
  simp
theorem mode_any (co:Co) (hc:co.ok) (w:World):Calls prog 125 #[co.val] w fun e w'=>e=.returned (.int .u8 ((modeB co).toNat:Int))∧Below w.heap.size w w':=by
 obtain⟨st,sh,bk⟩:=co
 obtain⟨k,rfl⟩:∃ k:Nat,st=(k:Int):=⟨st.toNat,by have:=hc.1;simp only at this;omega⟩
 have hk:k≤4:=by have:=hc.2.1;simp only at this;omega
 unfold modeB Co.val
 simp only
 rw[u8n _ (by split<;>split<;>omega)]
 clear hc
 cases sh<;>cases bk
 all_goals
  go_enter func125,ntmps125
  go_wp2_with fail
  go_ret
  refine⟨?_,zr.alloc lr _⟩
  simp
  try omega
open We (Co TblAt WfT keyM Key_any)
open D (Dm Wf)
open Ta (Tm)
theorem items_pos (s:ByteArray):∀ (f k:Nat),∀ x∈U.itemsF s f k,0≤x.1:=by
 intro f
 induction f with
 | zero=>intro k x h;cases h
 | succ f ih =>
  intro k x h
  unfold U.itemsF at h
  split at h
  · split at h
    · rw[List.mem_singleton.1 h];exact Int.natCast_nonneg k
    · rcases List.mem_cons.1 h with rfl | h
      · exact Int.natCast_nonneg k
      · exact ih _ x h
  · cases h
theorem good_of {s:ByteArray} (h:U.checkS s<0):U.Good (U.items s):=by
 unfold U.checkS at h
 cases hf:(U.items s).find? (fun x=>decide (x.2<0)) with
 | none =>
  intro x hx
  have:=List.find?_eq_none.1 hf x hx
  simp at this
  exact this
 | some x =>
  rw[hf] at h
  have:=items_pos s s.size 0 x (List.mem_of_find?_eq_some hf)
  simp only [Option.elim_some] at h
  omega
theorem escape_c (s:ByteArray) (w:World) (hs:s.size≤1099511627776):Calls prog 173 #[.string s] w fun e w'=>e=.returned (.string ⟨(escB s.toList).toArray⟩)∧Below w.heap.size w w':=by
 have h:=Es.escape_any s w hs
 rw[← Lib.toList_data] at h
 exact h
def rawM (K:Co→ByteArray→List UInt8) (f:Fd) (s:ByteArray):List UInt8 :=
 if f.kind=4 then s.toList else if f.kind=6 then modeB f.co::(K f.co s++escB s.toList) else escB s.toList
theorem raw_plain (f:Fd) (K:Co→ByteArray→List UInt8) (s:ByteArray) (hk:f.kind=3∨f.kind=4∨f.kind=5) (hs:s.size≤65536) (a:Option Addr) (n c:Nat) (t:Addr) (w:World) :
 Calls prog 128 #[.pointer (some t),.agg (fcells f (.slice a n c)).toArray,.string s] w fun e w'=>e=.returned (.string ⟨(rawM K f s).toArray⟩)∧Below w.heap.size w w':=by
 have HE:=zh (fun w=>escape_c s w (by omega))
 rw[fcells_14]
 unfold rawM
 rcases hk with h | h | h
 · rw[h,if_neg (by decide),if_neg (by decide)]
   go_enter func128,ntmps128
   go_wp2_with (go_at_call 173;refine(HE.out _).mono ?_;rintro e w1 ⟨rfl,hb1⟩;have HB:=zh ((zr.alloc lr _).trans (hb1.mono (by simp))))
   go_ret
   exact⟨rfl,HB.out⟩
 · rw[h,if_pos rfl]
   go_enter func128,ntmps128
   go_wp2_with fail
   go_ret
   exact⟨by rw[mk_toList];rfl,zr.alloc lr _⟩
 · rw[h,if_neg (by decide),if_neg (by decide)]
   go_enter func128,ntmps128
   go_wp2_with (go_at_call 173;refine(HE.out _).mono ?_;rintro e w1 ⟨rfl,hb1⟩;have HB:=zh ((zr.alloc lr _).trans (hb1.mono (by simp))))
   go_ret
   exact⟨rfl,HB.out⟩
theorem key_len {D:Dm} (wf:Wf D) {T:Tm} (wt:WfT T) (c:Co) (hc:c.ok) {s:ByteArray} (hs:s.size≤65536):(keyM D T c s).length≤600000000:=by
 have hl:(We.allM D T c s).length=c.str.toNat:=by unfold We.allM;simp
 have h:=We.wlev_len (ls:=We.allM D T c s) (N:=67108864) (fun l hl=>by
  unfold We.allM at hl
  obtain⟨i,_,rfl⟩:=List.mem_map.1 hl
  exact We.level_len wf wt c hs i) c.str.toNat
 rw[List.take_of_length_le (by omega)] at h
 have h4:=hc.2.1
 have:c.str.toNat*(2*67108864+2)≤4*(2*67108864+2):=Nat.mul_le_mul_right _ (by omega)
 unfold keyM
 omega
theorem cat3 (c:UInt8) (k l:List UInt8):Ending.returned (.string (⟨#[c]⟩++⟨k.toArray⟩++⟨l.toArray⟩))=Ending.returned (.string ⟨(c::(k++l)).toArray⟩) :=
 congrArg (fun s=>Ending.returned (.string s)) (ba_eq (by simp))
theorem belowA {w1 w:World} (h:Below w1.heap.size w1 w) (o:Obj):Below w1.heap.size w1 (w.alloc o):=h.alloc h.size o
theorem raw_text {D:Dm} (wf:Wf D) {T:Tm} (wt:WfT T) (f:Fd) (s:ByteArray) (hk:f.kind=6) (hc:f.co.ok) (hs:s.size≤65536) (hg:U.Good (U.items s)) (a:Option Addr) (n c:Nat) (t:Addr) (w:World) (ht:TblAt w 0 w.heap.size (.pointer (some t)) D T) :
 Calls prog 128 #[.pointer (some t),.agg (fcells f (.slice a n c)).toArray,.string s] w fun e w'=>e=.returned (.string ⟨(rawM (keyM D T) f s).toArray⟩)∧Below w.heap.size w w':=by
 have HE:=zh (fun w=>escape_c s w (by omega))
 have HK:=zh (fun (w':World) (hb:Below w.heap.size w w')=>Key_any wf wt (.pointer (some t)) f.co hc s w' ((ht.later hb lr).wide lr hb.size) hs hg)
 have HM:=zh (fun w=>mode_any f.co hc w)
 rw[fcells_14]
 unfold rawM
 rw[hk,if_neg (by decide),if_pos rfl]
 obtain⟨⟨st,sh,bk⟩,hco⟩:∃ co,f.co=co:=⟨_,rfl⟩
 rw[hco] at HK HM ⊢
 unfold Co.val at HK HM
 simp only at HK HM
 obtain⟨key,hkey⟩:∃ key,keyM D T ⟨st,sh,bk⟩ s=key:=⟨_,rfl⟩
 obtain⟨mb,hmb⟩:∃ mb,modeB ⟨st,sh,bk⟩=mb:=⟨_,rfl⟩
 rw[hkey] at HK ⊢
 rw[hmb] at HM ⊢
 have hkl:key.length≤600000000:=by
  rw[← hkey,← hco];exact key_len wf wt f.co hc hs
 obtain⟨el,hel⟩:∃ el,escB s.toList=el:=⟨_,rfl⟩
 have hll:el.length≤200000:=by
  rw[← hel]
  unfold escB
  have h1:=Es.esc_len s.toList
  rw[V.size_of] at h1
  simp only [List.length_append,List.length_cons,List.length_nil]
  omega
 rw[hel] at HE ⊢
 have hc1:(9223372036854775807<1+key.length)=False:=by simp;omega
 have hc2:(9223372036854775807<1+key.length+el.length)=False:=by simp;omega
 clear hco hc ht hkey hmb hg hk wf wt hkl hll hel
 go_enter func128,ntmps128
 go_wp2_with (go_at_call 126;refine(HK.out _ (zr.alloc lr _)).mono ?_;rintro e w1 ⟨rfl,hb1⟩;have HB:=zh ((zr.alloc lr _).trans (hb1.mono (by simp)));obtain⟨c0,c1,c2,c3,c4,c5,c6,c7,c8,c9,c10,c11,c12,c13⟩:=f14 (Blk.below (Blk.new w 79 #[.string f.name,.int .u8 ((6:Nat):Int),.bool f.down,.int .u8 f.nulls,.bool f.bnd,.bool f.lob,.string f.lom,.bool f.hib,.string f.him,.int .i64 f.most,.int .i64 st,.bool sh,.bool bk,.slice a n c]) hb1 (by simp)))
 have hbd:Below w1.heap.size w1 w1.drew:=(Below.refl w1.heap.size w1).drew
 have hcv:∀ (W:World) (B:Nat),W.cell? ⟨B,0,none⟩=some (.int .u8 (mb.toNat:Int))→(convert 99 9 (.slice (some ⟨B,0,none⟩) 1 1)).run prog W=.ok (.string ⟨#[mb]⟩) W:=fun W B h =>
  run_convert_bytes_back (P:=prog) W 99 9 5 ⟨B,0,none⟩ 1 [mb] underlying99 underlying5 underlying9 (fun j hj=>by
   obtain rfl:j=0:=by simp at hj;omega
   simpa[Addr.add] using h)
 refine wp_region_held_drew (S:=fun w'=>w'.cell? ⟨w.heap.size,10,none⟩=some (.int .i64 st)∧w'.cell? ⟨w.heap.size,11,none⟩=some (.bool sh)∧w'.cell? ⟨w.heap.size,12,none⟩=some (.bool bk)∧Below w1.heap.size w1 w') (by kernel_rfl) ⟨c10,c11,c12,hbd⟩ (fun hHeld=>?_)
 refine tx 0 ?vx1 rfl (by kernel_rfl) tq (by rfl) ?hyx1 (by assumption) ?restx1
 case hyx1=>(rintro wS ⟨k10,k11,k12,kb⟩;go_simp;try with_reducible rfl)
 try simp[Act.put]
 refine tx 1 ?vx2 rfl (by kernel_rfl) tq (by rfl) ?hyx2 (by assumption) ?restx2
 case hyx2=>(rintro wS ⟨k10,k11,k12,kb⟩;go_simp;try with_reducible rfl)
 try simp[Act.put]
 refine tx 5 ?vx3 rfl (by kernel_rfl) tq (by rfl) ?hyx3 (by assumption) ?restx3
 case hyx3=>(rintro wS ⟨k10,k11,k12,kb⟩;go_simp;try with_reducible rfl)
 try simp[Act.put]
 refine tx 7 ?vx4 rfl (by kernel_rfl) tq (by rfl) ?hyx4 (by assumption) ?restx4
 case hyx4=>(rintro wS ⟨k10,k11,k12,kb⟩;go_simp;try with_reducible rfl)
 try simp[Act.put]
 refine wpAnyH_ready (rs:=[2]) (by kernel_rfl) (by simp) ?_
 refine AllReadyH.cons rfl (fun K hK=>?_) AllReadyH.nil
 go_simp
 obtain⟨k10,k11,k12,kb⟩:=hHeld
 refine(HM.out _).mono ?_
 rintro e w9 ⟨rfl,hb9⟩
 replace k10:=V.keeps hb9 k10
 replace k11:=V.keeps hb9 k11
 replace k12:=V.keeps hb9 k12
 replace kb:=V.two kb hb9
 go_wp2_with fail
 refine hK.out _ _ ⟨k10,k11,k12,kb⟩ (fun hHeld=>?_)
 try simp[Act.put]
 refine wpAnyH_ready (rs:=[3,8]) (by kernel_rfl) (by simp) ?_
 refine AllReadyH.cons rfl (fun K hK=>?_) (AllReadyH.cons rfl (fun K hK=>?_) AllReadyH.nil)
 · skip
   go_simp
   obtain⟨k10,k11,k12,kb⟩:=hHeld
   go_wp2_with fail
   have q0:(World.alloc w9 (.cells #[.int .u8 (mb.toNat:Int)] 5)).cell? ⟨(w9).heap.size,0,none⟩=some (.int .u8 (mb.toNat:Int)):=by simp
   replace k10:=V.keeps (zr.alloc lr (.cells #[.int .u8 (mb.toNat:Int)] 5)) k10
   replace k11:=V.keeps (zr.alloc lr (.cells #[.int .u8 (mb.toNat:Int)] 5)) k11
   replace k12:=V.keeps (zr.alloc lr (.cells #[.int .u8 (mb.toNat:Int)] 5)) k12
   replace kb:=belowA kb (.cells #[.int .u8 (mb.toNat:Int)] 5)
   refine hK.out _ _ ⟨k10,k11,k12,kb⟩ (fun hHeld=>?_)
   try simp[Act.put]
   refine wpAnyH_ready (rs:=[4,8]) (by kernel_rfl) (by simp) ?_
   refine AllReadyH.cons rfl (fun K hK=>?_) (AllReadyH.cons rfl (fun K hK=>?_) AllReadyH.nil)
   · skip
     go_simp
     obtain⟨k10,k11,k12,kb⟩:=hHeld
     go_wp2_with fail
     refine hK.out _ _ ⟨k10,k11,k12,kb⟩ (fun hHeld=>?_)
     try simp[Act.put]
     refine wpAnyH_ready (rs:=[6,8]) (by kernel_rfl) (by simp) ?_
     refine AllReadyH.cons rfl (fun K hK=>?_) (AllReadyH.cons rfl (fun K hK=>?_) AllReadyH.nil)
     · skip
       go_simp
       obtain⟨k10,k11,k12,kb⟩:=hHeld
       go_wp2_with fail
       refine hK.out _ _ ⟨k10,k11,k12,kb⟩ (fun hHeld=>?_)
       try simp[Act.put]
       refine wpAnyH_ready (rs:=[8]) (by kernel_rfl) (by simp) ?_
       refine AllReadyH.cons rfl (fun K hK=>?_) AllReadyH.nil
       go_simp
       obtain⟨k10,k11,k12,kb⟩:=hHeld
       refine(HE.out _).mono ?_
       rintro e w9 ⟨rfl,hb9⟩
       replace k10:=V.keeps hb9 k10
       replace k11:=V.keeps hb9 k11
       replace k12:=V.keeps hb9 k12
       replace kb:=V.two kb hb9
       replace q0:=V.keeps hb9 q0
       go_wp2_with fail
       refine hK.out _ _ ⟨k10,k11,k12,kb⟩ (fun hHeld=>?_)
       try simp[Act.put]
       refine tx 9 ?vx5 rfl (by kernel_rfl) tq (by rfl) ?hyx5 (by assumption) ?restx5
       case hyx5=>(rintro wS ⟨k10,k11,k12,kb⟩;go_simp;try with_reducible rfl)
       try simp[Act.put]
       refine tx 10 ?vx6 rfl (by kernel_rfl) tq (by rfl) ?hyx6 (by assumption) ?restx6
       case hyx6=>(rintro wS ⟨k10,k11,k12,kb⟩;go_simp;try with_reducible rfl)
       try simp[Act.put]
       refine wpAnyH_done (by kernel_rfl) ?_ _
       obtain⟨k10,k11,k12,kb⟩:=hHeld
       go_wp2_with fail
       go_ret
       exact⟨cat3 mb key el,HB.out.trans (kb.mono HB.out.size)⟩
     · skip
       go_simp
       obtain⟨k10,k11,k12,kb⟩:=hHeld
       refine(HE.out _).mono ?_
       rintro e w9 ⟨rfl,hb9⟩
       replace k10:=V.keeps hb9 k10
       replace k11:=V.keeps hb9 k11
       replace k12:=V.keeps hb9 k12
       replace kb:=V.two kb hb9
       replace q0:=V.keeps hb9 q0
       go_wp2_with fail
       refine hK.out _ _ ⟨k10,k11,k12,kb⟩ (fun hHeld=>?_)
       try simp[Act.put]
       refine wpAnyH_ready (rs:=[6]) (by kernel_rfl) (by simp) ?_
       refine AllReadyH.cons rfl (fun K hK=>?_) AllReadyH.nil
       go_simp
       obtain⟨k10,k11,k12,kb⟩:=hHeld
       go_wp2_with fail
       refine hK.out _ _ ⟨k10,k11,k12,kb⟩ (fun hHeld=>?_)
       try simp[Act.put]
       refine tx 9 ?vx7 rfl (by kernel_rfl) tq (by rfl) ?hyx7 (by assumption) ?restx7
       case hyx7=>(rintro wS ⟨k10,k11,k12,kb⟩;go_simp;try with_reducible rfl)
       try simp[Act.put]
       refine tx 10 ?vx8 rfl (by kernel_rfl) tq (by rfl) ?hyx8 (by assumption) ?restx8
       case hyx8=>(rintro wS ⟨k10,k11,k12,kb⟩;go_simp;try with_reducible rfl)
       try simp[Act.put]
       refine wpAnyH_done (by kernel_rfl) ?_ _
       obtain⟨k10,k11,k12,kb⟩:=hHeld
       go_wp2_with fail
       go_ret
       exact⟨cat3 mb key el,HB.out.trans (kb.mono HB.out.size)⟩
   · skip
     go_simp
     obtain⟨k10,k11,k12,kb⟩:=hHeld
     refine(HE.out _).mono ?_
     rintro e w9 ⟨rfl,hb9⟩
     replace k10:=V.keeps hb9 k10
     replace k11:=V.keeps hb9 k11
     replace k12:=V.keeps hb9 k12
     replace kb:=V.two kb hb9
     replace q0:=V.keeps hb9 q0
     go_wp2_with fail
     refine hK.out _ _ ⟨k10,k11,k12,kb⟩ (fun hHeld=>?_)
     try simp[Act.put]
     refine wpAnyH_ready (rs:=[4]) (by kernel_rfl) (by simp) ?_
     refine AllReadyH.cons rfl (fun K hK=>?_) AllReadyH.nil
     go_simp
     obtain⟨k10,k11,k12,kb⟩:=hHeld
     go_wp2_with fail
     refine hK.out _ _ ⟨k10,k11,k12,kb⟩ (fun hHeld=>?_)
     try simp[Act.put]
     refine wpAnyH_ready (rs:=[6]) (by kernel_rfl) (by simp) ?_
     refine AllReadyH.cons rfl (fun K hK=>?_) AllReadyH.nil
     go_simp
     obtain⟨k10,k11,k12,kb⟩:=hHeld
     go_wp2_with fail
     refine hK.out _ _ ⟨k10,k11,k12,kb⟩ (fun hHeld=>?_)
     try simp[Act.put]
     refine tx 9 ?vx9 rfl (by kernel_rfl) tq (by rfl) ?hyx9 (by assumption) ?restx9
     case hyx9=>(rintro wS ⟨k10,k11,k12,kb⟩;go_simp;try with_reducible rfl)
     try simp[Act.put]
     refine tx 10 ?vx10 rfl (by kernel_rfl) tq (by rfl) ?hyx10 (by assumption) ?restx10
     case hyx10=>(rintro wS ⟨k10,k11,k12,kb⟩;go_simp;try with_reducible rfl)
     try simp[Act.put]
     refine wpAnyH_done (by kernel_rfl) ?_ _
     obtain⟨k10,k11,k12,kb⟩:=hHeld
     go_wp2_with fail
     go_ret
     exact⟨cat3 mb key el,HB.out.trans (kb.mono HB.out.size)⟩
 · skip
   go_simp
   obtain⟨k10,k11,k12,kb⟩:=hHeld
   refine(HE.out _).mono ?_
   rintro e w9 ⟨rfl,hb9⟩
   replace k10:=V.keeps hb9 k10
   replace k11:=V.keeps hb9 k11
   replace k12:=V.keeps hb9 k12
   replace kb:=V.two kb hb9
   go_wp2_with fail
   refine hK.out _ _ ⟨k10,k11,k12,kb⟩ (fun hHeld=>?_)
   try simp[Act.put]
   refine wpAnyH_ready (rs:=[3]) (by kernel_rfl) (by simp) ?_
   refine AllReadyH.cons rfl (fun K hK=>?_) AllReadyH.nil
   go_simp
   obtain⟨k10,k11,k12,kb⟩:=hHeld
   go_wp2_with fail
   have q0:(World.alloc w9 (.cells #[.int .u8 (mb.toNat:Int)] 5)).cell? ⟨(w9).heap.size,0,none⟩=some (.int .u8 (mb.toNat:Int)):=by simp
   replace k10:=V.keeps (zr.alloc lr (.cells #[.int .u8 (mb.toNat:Int)] 5)) k10
   replace k11:=V.keeps (zr.alloc lr (.cells #[.int .u8 (mb.toNat:Int)] 5)) k11
   replace k12:=V.keeps (zr.alloc lr (.cells #[.int .u8 (mb.toNat:Int)] 5)) k12
   replace kb:=belowA kb (.cells #[.int .u8 (mb.toNat:Int)] 5)
   refine hK.out _ _ ⟨k10,k11,k12,kb⟩ (fun hHeld=>?_)
   try simp[Act.put]
   refine wpAnyH_ready (rs:=[4]) (by kernel_rfl) (by simp) ?_
   refine AllReadyH.cons rfl (fun K hK=>?_) AllReadyH.nil
   go_simp
   obtain⟨k10,k11,k12,kb⟩:=hHeld
   go_wp2_with fail
   refine hK.out _ _ ⟨k10,k11,k12,kb⟩ (fun hHeld=>?_)
   try simp[Act.put]
   refine wpAnyH_ready (rs:=[6]) (by kernel_rfl) (by simp) ?_
   refine AllReadyH.cons rfl (fun K hK=>?_) AllReadyH.nil
   go_simp
   obtain⟨k10,k11,k12,kb⟩:=hHeld
   go_wp2_with fail
   refine hK.out _ _ ⟨k10,k11,k12,kb⟩ (fun hHeld=>?_)
   try simp[Act.put]
   refine tx 9 ?vx11 rfl (by kernel_rfl) tq (by rfl) ?hyx11 (by assumption) ?restx11
   case hyx11=>(rintro wS ⟨k10,k11,k12,kb⟩;go_simp;try with_reducible rfl)
   try simp[Act.put]
   refine tx 10 ?vx12 rfl (by kernel_rfl) tq (by rfl) ?hyx12 (by assumption) ?restx12
   case hyx12=>(rintro wS ⟨k10,k11,k12,kb⟩;go_simp;try with_reducible rfl)
   try simp[Act.put]
   refine wpAnyH_done (by kernel_rfl) ?_ _
   obtain⟨k10,k11,k12,kb⟩:=hHeld
   go_wp2_with fail
   go_ret
   exact⟨cat3 mb key el,HB.out.trans (kb.mono HB.out.size)⟩
