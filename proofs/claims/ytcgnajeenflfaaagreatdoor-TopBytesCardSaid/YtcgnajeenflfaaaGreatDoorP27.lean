import Derived.Test.YtcgnajeenflfaaaGreatDoorP23
import Derived.Test.YtcgnajeenflfaaaGreatDoorP25
set_option maxRecDepth 100000
set_option maxHeartbeats 4000000
set_option linter.all false
open Go.Proofs.Tryz Go.RowKit
namespace Go.Proofs.YtcgnajeenflfaaaGreatDoor
namespace We
open Ta (El Tm impM impBase isPtB findM)
open D (Dm classM formM)
open Ma (elemsM rowE elemsM_eq)
open Sc (rdKey KeyOk)
def In16 (n:Int):Prop:=0≤n∧n≤65535
def ElIn (x:El):Prop:=In16 x.p∧In16 x.s∧In16 x.t
theorem impM_in (x:Int):∀ e∈impM x,ElIn e:=by
 intro e he
 unfold impM at he
 split at he
 · next h =>
   have hx:0≤x∧x≤1114111:=by
    simp only [isPtB,Bool.and_eq_true,decide_eq_true_eq] at h
    omega
   have hb:0≤impBase x∧impBase x≤64448:=by
    unfold impBase
    repeat' split
    all_goals omega
   rcases List.mem_cons.1 he with rfl | he
   · unfold ElIn In16
     simp only
     omega
   · rw[List.mem_singleton.1 he]
     unfold ElIn In16
     simp only
     omega
 · cases he
theorem elemsM_in {T:Tm} (wt:WfT T) (c:Int→Int) (l:List Int):∀ e∈elemsM c T l,ElIn e:=by
 intro e he
 rw[elemsM_eq] at he
 obtain⟨row,_,hr⟩:=List.mem_flatMap.1 he
 unfold rowE at hr
 cases hf:findM T row with
 | none=>rw[hf] at hr;exact impM_in _ e hr
 | some es =>
  rw[hf] at hr
  unfold findM at hf
  split at hf
  · exact wt.fits _ _ hf e hr
  · cases hf
theorem wds_in (sh:Bool):∀ (l:List El) (b:Bool),(∀ e∈l,ElIn e)→∀ x∈wds sh b l,ElIn x.e:=by
 intro l
 induction l with
 | nil=>intro b _ x hx;cases hx
 | cons e l ih =>
  intro b h x hx
  rw[wds] at hx
  rcases List.mem_cons.1 hx with rfl | hx
  · exact h e List.mem_cons_self
  · exact ih _ (fun e he=>h e (List.mem_cons_of_mem _ he)) x hx
theorem lvlM_in {x:Wd} (h:ElIn x.e) (i:Nat):In16 (lvlM i x):=by
 obtain⟨h1,h2,h3⟩:=h
 unfold lvlM In16 at *
 repeat' split
 all_goals omega
theorem wts_in {l:List Wd} (h:∀ x∈l,ElIn x.e) (i:Nat):∀ n∈wts i l,1≤n∧n≤65535:=by
 intro n hn
 unfold wts at hn
 obtain⟨h1,h2⟩:=List.mem_filter.1 hn
 obtain⟨x,hx,rfl⟩:=List.mem_map.1 h1
 have:=lvlM_in (h x hx) i
 simp only [decide_eq_true_eq] at h2
 unfold In16 at this
 omega
theorem levelM_in {T:Tm} (wt:WfT T) (D:Dm) (c:Co) (s:ByteArray) (i:Nat):∀ n∈levelM D T c s i,1≤n∧n≤65535:=by
 have h:=wts_in (wds_in c.sh _ false (elemsM_in wt (classM D) (formM D (U.pointsS s)))) i
 intro n hn
 unfold levelM lvlsM at hn
 split at hn
 · exact So.revM_all (C:=fun n=>1≤n∧n≤65535) h n hn
 · exact h n hn
theorem two_bytes {n:Int} (h:1≤n∧n≤65535):¬ (UInt8.ofNat (n / 256 % 256).toNat=0∧UInt8.ofNat (n % 256).toNat=0):=by
 rintro ⟨h1,h2⟩
 have h3:=congrArg UInt8.toNat h1
 have h4:=congrArg UInt8.toNat h2
 have h0:(0:UInt8).toNat=0:=rfl
 rw[u8n _ (by omega),h0] at h3
 rw[u8n _ (by omega),h0] at h4
 omega
theorem rdKey_level:∀ (l:List Int) (R:List UInt8) (n:Nat),(∀ x∈l,1≤x∧x≤65535)→rdKey (wbytes l++R) (n+1)=(rdKey R n).map fun x=>(wbytes l++x.1,x.2):=by
 intro l
 induction l with
 | nil =>
  intro R n _
  show rdKey (0::0::R) (n+1)=_
  rw[rdKey,if_pos ⟨rfl,rfl⟩]
  rfl
 | cons x l ih =>
  intro R n h
  show rdKey (UInt8.ofNat (x / 256 % 256).toNat::UInt8.ofNat (x % 256).toNat::(wbytes l++R)) (n+1)=_
  rw[rdKey,if_neg (two_bytes (h x List.mem_cons_self)),ih R n fun y hy=>h y (List.mem_cons_of_mem _ hy),Option.map_map]
  rfl
theorem rdKey_levels:∀ (ls:List (List Int)) (R:List UInt8),(∀ l∈ls,∀ x∈l,1≤x∧x≤65535)→rdKey (ls.flatMap wbytes++R) ls.length=some (ls.flatMap wbytes,R):=by
 intro ls
 induction ls with
 | nil=>intro R _;rw[List.length_nil,rdKey];rfl
 | cons l ls ih =>
  intro R h
  rw[List.flatMap_cons,List.append_assoc,List.length_cons,rdKey_level _ _ _ (h l List.mem_cons_self),ih R fun m hm=>h m (List.mem_cons_of_mem _ hm)]
  rfl
theorem keyM_ok {T:Tm} (wt:WfT T) (D:Dm):KeyOk (keyM D T):=by
 intro c s r hc _ _
 have h:=rdKey_levels (allM D T c s) r (fun l hl=>by
  unfold allM at hl
  obtain⟨i,_,rfl⟩:=List.mem_map.1 hl
  exact levelM_in wt D c s i)
 unfold keyM
 rwa [show (allM D T c s).length=c.str.toNat by unfold allM;simp] at h
open Ta (El Tm TabAt ev)
open D (Dm Wf DataAt classM formM)
open Ma (elemsM Elements_any ElemsPost RowsP)
theorem keyInfo5:(prog.info? 5).map (fun i=>(i.zero,i.size,i.bytes))=some (some (.int .u8 0),1,1):=by kernel_rfl
theorem ret_str {l m:List UInt8} (h:l=m):Value.string ⟨l.toArray⟩=Value.string ⟨m.toArray⟩:=by rw[h]
theorem byte_hi {x:Int} (h0:0≤x) (h1:x≤65535):((UInt8.ofNat (x / 256 % 256).toNat).toNat:Int)=x / 256 % 256:=by
 rw[UInt8.toNat_ofNat'];omega
theorem byte_lo {x:Int} (h0:0≤x) (h1:x≤65535):((UInt8.ofNat (x % 256).toNat).toNat:Int)=x % 256:=by
 rw[UInt8.toNat_ofNat'];omega
theorem bv_cells_twoI (w:World) (c d:UInt8) (x y:Int) (hx:(c.toNat:Int)=x) (hy:(d.toNat:Int)=y) (T:TypeId):∀ j u,(bv [c,d])[j]?=some u→(w.alloc (.cells #[.int .u8 x,.int .u8 y] T)).cell? ((⟨w.heap.size,0,none⟩:Addr).add j)=some u:=by subst hx hy;exact bv_cells_two w c d T
def wpair (n:Int):List UInt8:=[UInt8.ofNat (n / 256 % 256).toNat,UInt8.ofNat (n % 256).toNat]
theorem wbytes_eq (l:List Int):wbytes l=l.flatMap wpair++[0,0]:=rfl
theorem level_len {D:Dm} (wf:Wf D) {T:Tm} (wt:WfT T) (c:Co) {s:ByteArray} (hs:s.size≤65536) (i:Nat):(levelM D T c s i).length≤67108864:=by
 have h:=elems_le wf wt (Nat.le_trans (points_len s) hs) lr (points_fine s)
 have h2:=wts_len i (lvlsM D T c s)
 have h3:(lvlsM D T c s).length=(elemsM (classM D) T (formM D (U.pointsS s))).length:=wds_len ..
 unfold levelM
 split
 · rw[So.revM_length];omega
 · omega
theorem wflat_len (l:List Int):(l.flatMap wpair).length=2*l.length:=by
 induction l with
 | nil=>rfl
 | cons x l ih=>rw[List.flatMap_cons,List.length_append,ih,List.length_cons];show 2+_=_;omega
theorem wflat_snoc {l:List Int} {k:Nat} (h:k<l.length):(l.take (k+1)).flatMap wpair=(l.take k).flatMap wpair++wpair l[k]:=by
 rw[List.take_add_one,List.getElem?_eq_getElem h,List.flatMap_append];rfl
theorem wlev_snoc {ls:List (List Int)} {j:Nat} (h:j<ls.length):(ls.take (j+1)).flatMap wbytes=(ls.take j).flatMap wbytes++(ls[j].flatMap wpair++[0,0]):=by
 rw[List.take_add_one,List.getElem?_eq_getElem h,List.flatMap_append];simp[wbytes_eq]
theorem wlev_len {ls:List (List Int)} {N:Nat} (h:∀ l∈ls,l.length≤N) (j:Nat):((ls.take j).flatMap wbytes).length≤j*(2*N+2):=by
 induction j with
 | zero=>simp
 | succ j ih =>
  have e:(j+1)*(2*N+2)=j*(2*N+2)+(2*N+2):=Nat.succ_mul j (2*N+2)
  rw[e]
  by_cases hj:j<ls.length
  · have:=h ls[j] (List.getElem_mem hj)
    rw[wlev_snoc hj,List.length_append,List.length_append,wflat_len]
    simp only [List.length_cons,List.length_nil]
    generalize j*(2*N+2)=P at *
    omega
  · rw[List.take_of_length_le (show ls.length≤j by omega)] at ih
    rw[List.take_of_length_le (show ls.length≤j+1 by omega)];generalize j*(2*N+2)=P at *;omega
theorem Key_any {D:Dm} (wf:Wf D) {T:Tm} (wt:WfT T) (t:Value) (c:Co) (hc:c.ok) (s:ByteArray) (w:World) (ht:TblAt w 0 w.heap.size t D T) (hs:s.size≤65536) (hg:U.Good (U.items s)) :
 Calls prog 126 #[t,c.val,.string s] w fun e w'=>e=.returned (.tuple #[.string ⟨(keyM D T c s).toArray⟩,.int .i64 0])∧Below w.heap.size w w':=by
 obtain⟨pb,hpb⟩:∃ pb,t=.pointer (some ⟨pb,0,none⟩):=by obtain⟨pb,_,_,h,_⟩:=ht;exact⟨pb,h⟩
 subst hpb
 have HT:=zh ht
 clear ht
 obtain⟨str,sh,back⟩:=c
 obtain⟨n,rfl⟩:∃ n:Nat,str=(n:Int):=⟨str.toNat,by have:=hc.1;simp only at this;omega⟩
 have hn1:1≤n:=by have:=hc.1;simp only at this;omega
 have hn4:n≤4:=by have:=hc.2.1;simp only at this;omega
 obtain⟨ls,hls⟩:∃ ls,allM D T ⟨(n:Int),sh,back⟩ s=ls:=⟨_,rfl⟩
 have hll:ls.length=n:=by rw[← hls];unfold allM;simp
 have HIN:=zh (show ∀ l∈ls,∀ x∈l,1≤x∧x≤65535 from fun l hl=>by
  rw[← hls] at hl
  unfold allM at hl
  obtain⟨i,_,rfl⟩:=List.mem_map.1 hl
  exact levelM_in wt D _ s i)
 have HLE:=zh (show ∀ l∈ls,l.length≤67108864 from fun l hl=>by
  rw[← hls] at hl
  unfold allM at hl
  obtain⟨i,_,rfl⟩:=List.mem_map.1 hl
  exact level_len wf wt _ hs i)
 have HKEY:=zh (show keyM D T ⟨(n:Int),sh,back⟩ s=ls.flatMap wbytes by unfold keyM;rw[hls])
 unfold Co.val
 go_enter func126,ntmps126
 go_wp2_with fail
 have hb0:Below w.heap.size w (w.alloc (.cells #[.int .i64 (n:Int),.bool sh,.bool back] 77)):=zr.alloc lr _
 refine(all_any wf wt _ ⟨(n:Int),sh,back⟩ hc s _ ((HT.out.later hb0 lr).wide lr (by simp)) hs hg).mono ?_
 rintro e w1 ⟨v,us,rfl,hO,hR,hb1⟩
 rw[hls] at hR
 have hlen:us.length=n:=by rw[hR.1,hll]
 rw[hlen] at hO
 obtain⟨g,cap,rfl,hg1,hg2⟩:=World.ownsRow.form hO (by omega)
 have HB0:=zh (hb0.trans (hb1.mono (by simp)))
 have HCE:=zh (show ∀ j (h:j<n),∃ u,w1.cell? ⟨g,j,none⟩=some u∧∃ hj:j<ls.length,IntsP w1 (fun _=>False) u ls[j] from fun j hj=>by
  obtain⟨u,h1,h2⟩:=hR.2 j (by omega)
  exact⟨u,(World.ownsRow.cellAt hO j (by omega)).trans h1,by omega,h2⟩)
 have hz1:=hb1.size
 have HLS:=zh hls
 clear hO hR hb1 hb0 hls
 go_wp2_with fail
 go_loopw [10,27] (fun o i wr=>∃ j:Nat,j≤n∧i=.int .i64 (j:Int)∧OwnB wr w1.heap.size o ((ls.take j).flatMap wbytes)∧Below w1.heap.size w1 wr) (fun _ i _=>n-(intOf i).toNat)
 case atStart=>exact⟨0,Nat.zero_le _,rfl,OwnB.nil _ _,zr⟩
 case round =>
  obtain⟨j,hj,rfl,hO,hB⟩:=hrel
  have hsz:=hB.size
  have hbl:=wlev_len HLE.out j
  by_cases hlt:j<n
  · have q1:decide ((j:Int)<(n:Int))=true:=decide_eq_true (by omega)
    obtain⟨u,hc,hjl,hu⟩:=HCE.out j hlt
    have hc':=(hB.cell (p:=⟨g,j,none⟩) hg2).trans hc
    obtain⟨Wt,hWt⟩:∃ Wt,ls[j]=Wt:=⟨_,rfl⟩
    have HWI:=zh (HIN.out ls[j] (List.getElem_mem hjl))
    have hwl:=HLE.out ls[j] (List.getElem_mem hjl)
    rw[hWt] at hu HWI hwl
    have HSN:=zh (show (ls.take (j+1)).flatMap wbytes=(ls.take j).flatMap wbytes++(Wt.flatMap wpair++[0,0]) by rw[wlev_snoc hjl,hWt])
    obtain⟨acc,hacc⟩:∃ acc,(ls.take j).flatMap wbytes=acc:=⟨_,rfl⟩
    rw[hacc] at hO hbl
    have HACC:=zh hacc
    clear hacc hWt hc
    obtain⟨a7,cap7,rfl,hcap7,hnn7,_⟩:=hu.form
    have HU:=zh hu
    have HO:=zh hO
    have HB:=zh hB
    clear hu hO hB
    go_wp2_with fail
    go_loopw [10,33] (fun o i wy=>∃ k:Nat,k≤Wt.length∧i=.int .i64 (k:Int)∧OwnB wy w1.heap.size o (acc++(Wt.take k).flatMap wpair)∧Below w1.heap.size w1 wy) (fun _ i _=>Wt.length-(intOf i).toNat)
    case atStart=>exact⟨0,Nat.zero_le _,rfl,by simpa using HO.out,HB.out⟩
    case round =>
     rename World=>wy
     obtain⟨k,hk,rfl,hO,hB⟩:=hrel
     have hsy:=hB.size
     have hfl:=wflat_len (Wt.take k)
     have hfl2:=List.length_take_le k Wt
     by_cases hkl:k<Wt.length
     · have q2:decide ((k:Int)<(Wt.length:Int))=true:=decide_eq_true (by omega)
       obtain⟨gw,offw,capw,hv,_,hgw,_,hcw⟩:=HU.out.pos (by omega)
       injection hv with hv1 hv2 hv3
       subst hv1 hv3
       have hcx:=(hB.cell (p:=⟨gw,offw+k,none⟩) hgw).trans (hcw k hkl)
       obtain⟨hx0,hx1⟩:=HWI.out _ (List.getElem_mem hkl)
       have HSN2:=zh (wflat_snoc hkl)
       obtain⟨x,hx⟩:∃ x,Wt[k]=x:=⟨_,rfl⟩
       rw[hx] at hcx hx0 hx1 HSN2
       clear hx hcw
       obtain⟨c,d,hc2,hd2,hcd⟩:∃ c d:UInt8,(c.toNat:Int)=x / 256∧(d.toNat:Int)=x % 256∧wpair x=[c,d] :=
        ⟨_,_,by rw[byte_hi (by omega) hx1];omega,byte_lo (by omega) hx1,rfl⟩
       rw[hcd] at HSN2
       have hal:(acc++(Wt.take k).flatMap wpair).length+2≤140737488355328:=by rw[List.length_append];omega
       clear hcd hfl hfl2
       go_wp2_with (at_builtin;refine wpList_append_bytes rfl (.tmp 37) (.tmp 43) 99 rfl underlying99 keyInfo5 rfl (hO.alloc _) _ [c,d] 2 _ rfl rfl (bv_cells_twoI _ _ _ _ _ hc2 hd2 _) hal (hB.alloc hsy _) (by simp;omega) ?_;intro v2 w2 hO2 hB2 hs2)
       rw[List.append_assoc,← HSN2.out] at hO2
       exact⟨⟨k+1,by omega,by simp,hO2,hB2⟩,by simp[intOf];omega⟩
     · obtain rfl:k=Wt.length:=by omega
       have q2:decide ((Wt.length:Int)<(Wt.length:Int))=false:=decide_eq_false (by omega)
       rw[List.take_length] at hO hfl
       have hal:(acc++Wt.flatMap wpair).length+2≤140737488355328:=by rw[List.length_append];omega
       go_wp2_with (at_builtin;refine wpList_append_bytes rfl (.tmp 46) (.tmp 47) 99 rfl underlying99 keyInfo5 rfl (hO.alloc _) _ [0,0] 2 _ rfl rfl (bv_cells_two _ 0 0 _) hal (hB.alloc hsy _) (by simp;omega) ?_;intro v2 w2 hO2 hB2 hs2)
       rw[List.append_assoc,← HACC.out,← HSN.out] at hO2
       exact⟨⟨j+1,by omega,by simp,hO2,hB2⟩,by simp[intOf];omega⟩
  · obtain rfl:j=n:=by omega
    have q1:decide ((j:Int)<(j:Int))=false:=decide_eq_false (by omega)
    have hcv:=hO.conv 99 9 underlying99 underlying5 underlying9
    go_wp2_with fail
    rw[List.take_of_length_le (by omega),← HKEY.out]
    refine bodyPost_ret (v:=.tuple #[.string ⟨(keyM D T ⟨(j:Int),sh,back⟩ s).toArray⟩,.int .i64 0]) (by simp[results,Tryz.f126]) rfl ?_
    exact⟨rfl,HB0.out.trans (hB.mono (Nat.le_trans (by simp) hz1))⟩
end We
namespace Sc
theorem ucatch_idle (p q r s:Addr) (w:World) :
 CallsD prog 58 #[.pointer (some p),.pointer (some q),.pointer (some r),.pointer (some s)] .returning w fun e u' w'=>e=.returned (.tuple #[])∧u'=.returning∧w'=w:=by
 refine callsD_of_wpS func58 rfl fun c₀ cs hu=>?_
 apply wpS_seq
 apply wpS_region
 simp[wpOpsS,go_sem,recoverD,hu,ntmps58,Exit.thenS]
 rw[show Array.replicate 17 undef=#[undef,undef,undef,undef,undef,undef,undef,undef,undef,undef,undef,undef,undef,undef,undef,undef,undef] from rfl]
 simp
 refine wpS_of_wp (Code.wp_mono (fun e a' w' (h:Ends (fun w'=>w'=w) e a' w')=>?_) ?_)
 · obtain⟨rfl,hd,rfl⟩:=h
   simp[bodyPostS,results,Tryz.results58,hd]
   cases c₀
   simp_all
 have hneq:∀ w:World,(binOp BinOp.neq 20 .nilIface .nilIface).run prog w=.ok (.bool false) w:=fun _=>by kernel_rfl
 go_wp2_with fail
 exact⟨rfl,rfl,rfl⟩
theorem ucatch_bad (g g0 g1 g2:Nat) (c n:Int) (v er ln:Value) (w:World) (hg:Blk w g 3 #[.int .i64 n]) (h0:Blk w g0 100 #[v]) (h1:Blk w g1 41 #[er]) (h2:Blk w g2 3 #[ln]) (h01:g0<g1) (h12:g1<g2) (h2g:g2<g) :
 CallsD prog 58 #[.pointer (some ⟨g,0,none⟩),.pointer (some ⟨g0,0,none⟩),.pointer (some ⟨g1,0,none⟩),.pointer (some ⟨g2,0,none⟩)] (.panicking [{ v:=.iface 153 (.agg #[.int .i64 c]),recovered:=false }]) w fun e u' w' =>
  e=.returned (.tuple #[])∧u'=.panicking [{ v:=.iface 153 (.agg #[.int .i64 c]),recovered:=true }] ∧
   (Blk w' g0 100 #[.pointer none]∧Blk w' g1 41 #[.int .i64 c]∧Blk w' g2 3 #[.int .i64 n])∧Xv (fun k=>k=g0∨k=g1∨k=g2) w w':=by
 have cg:=hg.cell 0
 have c0:=h0.cell 0
 have c1:=h1.cell 0
 have c2:=h2.cell 0
 have z0:=h0.frozen 0
 have z1:=h1.frozen 0
 have z2:=h2.frozen 0
 have H:=zh (And.intro h0 (And.intro h1 h2))
 have hgg:=hg.lt
 have hg0:=h0.lt
 have hg1:=h1.lt
 have hg2:=h2.lt
 have n01:g0≠g1:=by omega
 have n02:g0≠g2:=by omega
 have n12:g1≠g2:=by omega
 have m01:g1≠g0:=by omega
 have m02:g2≠g0:=by omega
 have m12:g2≠g1:=by omega
 clear h0 h1 h2 hg
 simp at c0 c1 c2 cg
 refine callsD_of_wpS func58 rfl fun c₀ cs hu=>?_
 apply wpS_seq
 apply wpS_region
 simp[wpOpsS,go_sem,recoverD,hu,ntmps58,Exit.thenS]
 rw[show Array.replicate 17 undef=#[undef,undef,undef,undef,undef,undef,undef,undef,undef,undef,undef,undef,undef,undef,undef,undef,undef] from rfl]
 simp
 refine wpS_of_wp (Code.wp_mono (fun e a' w' (h:Ends (fun w'=>(Blk w' g0 100 #[.pointer none]∧Blk w' g1 41 #[.int .i64 c]∧Blk w' g2 3 #[.int .i64 n])∧Xv (fun k=>k=g0∨k=g1∨k=g2) w w') e a' w')=>?_) ?_)
 · obtain⟨rfl,hd,h⟩:=h
   simp[bodyPostS,results,Tryz.results58,hd,h]
 have hneq:∀ w:World,(binOp BinOp.neq 20 (.iface 153 (.agg #[.int .i64 c])) .nilIface).run prog w=.ok (.bool true) w:=fun _=>by kernel_rfl
 have hta:∀ (v:Value) (w:World),(Instr.typeAssert (.iface 153 v) 20 153 true).run prog w=.ok (.tuple #[v,.bool true]) w:=fun _ _=>by kernel_rfl
 have hnot:∀ (x:Bool) (w:World),(Op.unary .not (.bool x)).run prog w=.ok (.bool (!x)) w:=fun _ _=>rfl
 go_wp2_with fail
 go_region
 go_wp2_with fail
 obtain⟨h0,h1,h2⟩:=H.out
 have e0:Blk (((w.setCell ⟨g0,0,none⟩ (.pointer none)).setCell ⟨g1,0,none⟩ (.int .i64 c)).setCell ⟨g2,0,none⟩ (.int .i64 n)) g0 100 #[.pointer none]:=by
  have:=blk_other (blk_other (h0.set_ 0 (.pointer none)) n01 0 (.int .i64 c)) n02 0 (.int .i64 n)
  simpa using this
 have e1:Blk (((w.setCell ⟨g0,0,none⟩ (.pointer none)).setCell ⟨g1,0,none⟩ (.int .i64 c)).setCell ⟨g2,0,none⟩ (.int .i64 n)) g1 41 #[.int .i64 c]:=by
  have:=blk_other ((blk_other h1 m01 0 (.pointer none)).set_ 0 (.int .i64 c)) n12 0 (.int .i64 n)
  simpa using this
 have e2:Blk (((w.setCell ⟨g0,0,none⟩ (.pointer none)).setCell ⟨g1,0,none⟩ (.int .i64 c)).setCell ⟨g2,0,none⟩ (.int .i64 n)) g2 3 #[.int .i64 n]:=by
  have:=(blk_other (blk_other h2 m02 0 (.pointer none)) m12 0 (.int .i64 c)).set_ 0 (.int .i64 n)
  simpa using this
 have al:∀ {b:Nat} {t:TypeId} {cs:Array Value} {W:World} (o:Obj),Blk W b t cs→Blk (W.alloc o).drew b t cs:=fun o h=>Blk.below h (zr.alloc lr o).drew h.lt
 exact⟨rfl,rfl,⟨al _ e0,al _ e1,al _ e2⟩,(((((Xv.refl (fun k=>k=g0∨k=g1∨k=g2) w).set_ (b:=g0) (fun _=>Or.inl rfl) 0 (.pointer none)).set_ (b:=g1) (fun _=>Or.inr (Or.inl rfl)) 0 (.int .i64 c)).set_ (b:=g2) (fun _=>Or.inr (Or.inr rfl)) 0 (.int .i64 n)).alloc _).drew⟩
end Sc
section
def TakePost (s:ByteArray) (a:Nat) (w:World) (e:Ending) (w':World):Prop :=
 match takeE s.toList a with
 | .error p=>e=.returned (.tuple #[.agg #[.bool false,.string ⟨#[]⟩],.int .i64 p,.int .i64 20])∧Below w.heap.size w w'
 | .ok (below,m,f)=>∃ q:ByteArray,e=.returned (.tuple #[.agg #[.bool below,.string q],.int .i64 f,.int .i64 0])∧Hid (q.toList=m)∧Below w.heap.size w w'
theorem take_post_bad {s:ByteArray} {a:Nat} {w w':World} {p:Nat} {x:Int} (h:takeE s.toList a=.error p) (hx:x=p) (hb:Below w.heap.size w w') :
 TakePost s a w (.returned (.tuple #[.agg #[.bool false,.string ⟨#[]⟩],.int .i64 x,.int .i64 20])) w':=by
 unfold TakePost
 rw[h,hx]
 exact⟨rfl,hb⟩
structure Res (g:Nat) (w:World):Prop where
 c0:w.cell? ⟨g,0,none⟩=some (.bool false)
 c1:w.cell? ⟨g,1,none⟩=some (.string ⟨#[]⟩)
 c2:w.cell? ⟨g+1,0,none⟩=some (.int .i64 0)
 c3:w.cell? ⟨g+2,0,none⟩=some (.int .i64 0)
 z0:w.frozen? ⟨g,0,none⟩=false
 z1:w.frozen? ⟨g,1,none⟩=false
 z2:w.frozen? ⟨g+1,0,none⟩=false
 z3:w.frozen? ⟨g+2,0,none⟩=false
theorem Res.below {g:Nat} {w w':World} (h:Res g w) (hb:Below (g+3) w w'):Res g w' where
 c0:=(hb.cell (p:=⟨g,0,none⟩) (by simp)).trans h.c0
 c1:=(hb.cell (p:=⟨g,1,none⟩) (by simp)).trans h.c1
 c2:=(hb.cell (p:=⟨g+1,0,none⟩) (by simp)).trans h.c2
 c3:=(hb.cell (p:=⟨g+2,0,none⟩) (by simp)).trans h.c3
 z0:=(hb.frozen (p:=⟨g,0,none⟩) (by simp)).trans h.z0
 z1:=(hb.frozen (p:=⟨g,1,none⟩) (by simp)).trans h.z1
 z2:=(hb.frozen (p:=⟨g+1,0,none⟩) (by simp)).trans h.z2
 z3:=(hb.frozen (p:=⟨g+2,0,none⟩) (by simp)).trans h.z3
theorem catch_res (g:Nat) (x:Int) (w:World) (h:Res g w) :
 CallsD prog 168 #[.pointer (some ⟨g,0,none⟩),.pointer (some ⟨g+1,0,none⟩),.pointer (some ⟨g+2,0,none⟩)] (.panicking [{ v:=.iface 290 (.agg #[.int .i64 x]),recovered:=false }]) w fun e u' w' =>
  e=.returned (.tuple #[])∧u'=.panicking [{ v:=.iface 290 (.agg #[.int .i64 x]),recovered:=true }] ∧
   w'.cell? ⟨g,0,none⟩=some (.bool false)∧w'.cell? ⟨g,1,none⟩=some (.string ⟨#[]⟩)∧w'.cell? ⟨g+1,0,none⟩=some (.int .i64 x)∧w'.cell? ⟨g+2,0,none⟩=some (.int .i64 20)∧Below g w w' :=
 catch_bad g x false ⟨#[]⟩ 0 0 w h.c0 h.c1 h.c2 h.c3 h.z0 h.z1 h.z2 h.z3
theorem wpList_append_bytes3 {P:Program} {ops:Array Oper} {rest:List Oper} {o:Oper} {a:Act} {Q:Exit→Act→World→Prop} {w:World} (hgd:o.guard=none) (s x:Operand) (t:TypeId)
 (ho:o.op=.call { callee:=.builtin .append,args:=#[s,x],argTypes:=#[t,t] })
 (ht:P.underlying t=some (.slice 5)) (hinfo:(P.info? 5).map (fun i=>(i.zero,i.size,i.bytes))=some (some (.int .u8 0),1,1))
 {base:Nat} {v:Value} {l:List UInt8} (hs:a.eval s=v) (hown:OwnB w base v l)
 (ad:Addr) (m:List UInt8) (k c:Nat) (hk:m.length=k) (hx:a.eval x=.slice (some ad) k c) (hnews:∀ j u,(bv m)[j]?=some u→w.cell? (ad.add j)=some u)
 (hlen:l.length+k≤140737488355328) (hbase:base≤w.heap.size)
 (h:∀ v' w',OwnB w' base v' (l++m)→w.grownBy w' v.ownBlock→wpList P ops Q rest (a.put o.dst v') w'):wpList P ops Q (o::rest) a w:=by
 subst hk
 obtain⟨i0,hi,hz0,hz1,hz2⟩:=info_parts hinfo
 refine wpList_append_own w hgd s x t ho base 5 i0 (.int .u8 0) 1 1 ht hi hz0 hz1 hz2 rfl (by decide) v l.length (bv l) hs hown ad m.length c (bv m) hx (by simp[bv_length]) hnews (bv_one m) (by unfold maxLen;omega) (by omega) hbase ?_
 intro v' w' ho' hg _
 refine h v' w' ?_ hg
 unfold OwnB
 rw[bv_append] at ho'
 simpa using ho'
theorem Rd.alloc {w:World} {b:Nat} {s:ByteArray} {a:Nat} (h:Rd w b s a) (o:Obj):Rd (w.alloc o) b s a:=(Below.heap_alloc w o b (Blk.lt h)).trans h
theorem Rd.grown {w w':World} {b:Nat} {s:ByteArray} {a:Nat} {base:Nat} {v:Value} {l:List UInt8} (h:Rd w b s a) (hO:OwnB w base v l) (hb:b<base) (hg:w.grownBy w' v.ownBlock):Rd w' b s a :=
 (hg.block b (Blk.lt h) (fun e=>by have:=(World.ownsRow.lt hO b e.symm).1;omega)).trans h
theorem takeE_size {l:List UInt8} {a p:Nat} (h:sizeE l a=.error p):takeE l a=.error p:=by simp[takeE,h]
theorem takeE_mag {l:List UInt8} {a k f p:Nat} {below:Bool} (h:sizeE l a=.ok (k,below,f)) (h2:magE l below f k=.error p):takeE l a=.error p:=by simp[takeE,h,h2]
theorem takeE_ok {l m:List UInt8} {a k f:Nat} {below:Bool} (h:sizeE l a=.ok (k,below,f)) (h2:magE l below f k=.ok m):takeE l a=.ok (below,m,f+k):=by simp[takeE,h,h2]
theorem leaves_good (s:ByteArray) (a:Nat) (w:World) (tmps:Array Value) (x:Int) (below:Bool) (q:ByteArray) {w1:World} {m:List UInt8} {f:Nat} (h4:tmps.getD 4 undef=.pointer (some ⟨w.heap.size,0,none⟩)) (h5:tmps.getD 5 undef=.pointer (some ⟨w.heap.size+1,0,none⟩))
 (h6:tmps.getD 6 undef=.pointer (some ⟨w.heap.size+2,0,none⟩)) (d0:w1.cell? ⟨w.heap.size,0,none⟩=some (.bool below)) (d1:w1.cell? ⟨w.heap.size,1,none⟩=some (.string q)) (d2:w1.cell? ⟨w.heap.size+1,0,none⟩=some (.int .i64 x)) (d3:w1.cell? ⟨w.heap.size+2,0,none⟩=some (.int .i64 0))
 (hE:takeE s.toList a=.ok (below,m,f)) (hq:q.data.toList=m) (hx:x=f) (hb:Below w.heap.size w w1) :
 Leaves prog Tryz.f124 tmps (TakePost s a w) [{ target:=.fn (.func 168) #[.pointer (some ⟨w.heap.size,0,none⟩),.pointer (some ⟨w.heap.size+1,0,none⟩),.pointer (some ⟨w.heap.size+2,0,none⟩)],args:=#[] }] .returning w1:=by
 refine leaves_cons (f:=168) (args:=#[.pointer (some ⟨w.heap.size,0,none⟩),.pointer (some ⟨w.heap.size+1,0,none⟩),.pointer (some ⟨w.heap.size+2,0,none⟩)]) (by simp) (by simp[go_sem]) ?_
 refine(catch_idle _ _ _ w1).mono ?_
 rintro e u' w2 ⟨rfl,rfl,rfl⟩
 refine⟨.tuple #[.agg #[.bool below,.string q],.int .i64 x,.int .i64 0],?_,?_⟩
 · simp only [Array.getD_eq_getD_getElem?] at h4 h5 h6
   simp[results,Tryz.results124,go_sem,h4,h5,h6,d0,d1,d2,d3]
 · unfold TakePost
   rw[hE,hx]
   exact⟨q,rfl,zh (by rw[Lib.toList_data];exact hq),hb⟩
theorem app_below {W w2 w3:World} {o:Obj} {v:Value} {l:List UInt8} {B:Nat} (hB:Below B W w2) (hs:B+1≤w2.heap.size) (hO:OwnB w2 (B+1) v l) (hg:(w2.alloc o).grownBy w3 v.ownBlock):Below B W w3 :=
 (hB.alloc (by omega) o).grown hg (by simp;omega) (fun q hq=>by have:=(World.ownsRow.lt hO q hq).1;omega)
theorem leaves_bad (s:ByteArray) (a:Nat) (w:World) (tmps:Array Value) (x:Int) {W w1:World} {p:Nat} (h4:tmps.getD 4 undef=.pointer (some ⟨w.heap.size,0,none⟩)) (h5:tmps.getD 5 undef=.pointer (some ⟨w.heap.size+1,0,none⟩))
 (h6:tmps.getD 6 undef=.pointer (some ⟨w.heap.size+2,0,none⟩)) (hRes:Res w.heap.size W) (hb1:Below (w.heap.size+3) W w1) (hBel:Below w.heap.size w W) (hE:takeE s.toList a=.error p) (hx:x=p) :
 Leaves prog Tryz.f124 tmps (TakePost s a w) [{ target:=.fn (.func 168) #[.pointer (some ⟨w.heap.size,0,none⟩),.pointer (some ⟨w.heap.size+1,0,none⟩),.pointer (some ⟨w.heap.size+2,0,none⟩)],args:=#[] }] (.panicking [{ v:=.iface 290 (.agg #[.int .i64 x]),recovered:=false }]) w1:=by
 refine leaves_cons (f:=168) (args:=#[.pointer (some ⟨w.heap.size,0,none⟩),.pointer (some ⟨w.heap.size+1,0,none⟩),.pointer (some ⟨w.heap.size+2,0,none⟩)]) (by simp) (by simp[go_sem]) ?_
 refine(catch_res w.heap.size x w1 (hRes.below hb1)).mono ?_
 rintro e u' w2 ⟨rfl,rfl,d0,d1,d2,d3,hb2⟩
 refine⟨.tuple #[.agg #[.bool false,.string ⟨#[]⟩],.int .i64 x,.int .i64 20],?_,take_post_bad hE hx ((hBel.trans (hb1.mono (by omega))).trans hb2)⟩
 simp only [Array.getD_eq_getD_getElem?] at h4 h5 h6
 simp[results,Tryz.results124,go_sem,h4,h5,h6,d0,d1,d2,d3]
theorem take_at (s:ByteArray) (a:Nat) (w:World) (hs:s.size≤9223372036854775807) (ha:a≤s.size) :
 Calls prog 124 #[.string s,.int .i64 a] w (TakePost s a w):=by
 have q:decide ((a:Int)<(0:Int))=false:=by simp
 have q2:decide ((s.size:Int)<(a:Int))=false:=by simp;omega
 have hmf:∀ (fn:Fn) (first cap:Array Value) (w:World),(Instr.makeFunc fn first cap).run prog w=.ok (.func fn first cap) w:=fun _ _ _ _=>rfl
 obtain⟨W,hW⟩:∃ W:World,W=((((w.alloc (.cells #[.bool false,.string ⟨#[]⟩] 54)).alloc (.cells #[.int .i64 0] 3)).alloc (.cells #[.int .i64 0] 41)).alloc (.cells #[.string s,.int .i64 a] 294)):=⟨_,rfl⟩
 have hRes:Res w.heap.size W:=by
  subst hW
  exact⟨by simp[go_sem],by simp[go_sem],by simp[go_sem],by simp[go_sem],by simp[go_sem],by simp[go_sem],by simp[go_sem],by simp[go_sem]⟩
 have hRd:Rd W (w.heap.size+1+1+1) s a:=by
  subst hW
  have:=Blk.new (((w.alloc (.cells #[.bool false,.string ⟨#[]⟩] 54)).alloc (.cells #[.int .i64 0] 3)).alloc (.cells #[.int .i64 0] 41)) 294 #[.string s,.int .i64 a]
  simpa[Rd] using this
 have hBel:Below w.heap.size w W:=by
  subst hW
  exact(((zr.alloc lr _).alloc (by simp) _).alloc (by simp;omega) _).alloc (by simp;omega) _
 have hWs:W.heap.size=w.heap.size+4:=by subst hW;simp
 go_enter_defers func124,ntmps124
 go_wp2_with fail
 rw[← hW]
 clear hW
 refine(size_any _ s a W hRd ha hs).mono ?_
 rintro e w1 hp
 unfold SizePost at hp
 generalize hE:sizeE s.toList a=E at hp
 cases E with
 | error p =>
  obtain⟨rfl,hm⟩:=hp
  have hb1:Below (w.heap.size+3) W w1:=hm.below lr
  exact leaves_bad _ _ _ _ _ rfl rfl rfl hRes hb1 hBel (takeE_size hE) rfl
 | ok r =>
  obtain⟨k,below,f⟩:=r
  obtain⟨rfl,hrd,hm⟩:=hp
  obtain⟨hk,hf,hfl⟩:=sizeE_ok hE
  rw[size_of] at hfl
  have HE:=zh hE
  have hb1:Below (w.heap.size+3) W w1:=hm.below lr
  have hs1:w.heap.size+4≤w1.heap.size:=hWs▸hm.size
  clear hE hm
  go_wp2_with fail
  go_loopw [10,11,12,33] (fun v _ _ i wr=>∃ j:Nat,j≤k∧f+j≤s.size∧i=.int .i64 j∧OwnB wr (w.heap.size+4) v (readL s.toList below f j)∧Rd wr (w.heap.size+1+1+1) s (f+j)∧Below (w.heap.size+3) W wr∧w.heap.size+4≤wr.heap.size ∧
   RowKit.Hid (j=0∨OnE s.toList below f k)) (fun _ _ _ i _=>k-(intOf i).toNat)
  case atStart=>exact⟨0,Nat.zero_le _,by omega,rfl,by rw[readL_zero];exact OwnB.nil _ _,hrd,hb1,hs1,zh (.inl rfl)⟩
  case round =>
   clear hrd hb1 hs1
   obtain⟨j,hjk,hfj,rfl,hO,hrd,hB,hsz,HON⟩:=hrel
   have hrl:(readL s.toList below f j).length=j:=readL_length _ _ _ _ (by rw[size_of];exact hfj)
   by_cases hlt:j<k
   · by_cases hin:f+j<s.size
     · have hat:=at_some s (f+j) hin
       have cN:=next_ok _ s (f+j) wr hrd hin hs
       obtain⟨c,hc⟩:∃ c,s[f+j]=c:=⟨_,rfl⟩
       rw[hc] at hat cN
       clear hc
       have hcb:=c.toNat_lt
       have HS:=zh (readL_succ s.toList below f j c hat)
       cases below
       · by_cases hj0:j=0
         · by_cases hz:fl false c=0
           · have hz0:c.toNat=0:=by have:=congrArg UInt8.toNat hz;simpa[fl] using this
             have q3:decide ((0:Int)<(j:Int))=false:=by simp;omega
             have q4:(((c.toNat:Int)) != 0)=false:=by simp;omega
             have HZ:=zh (magE_zero (l:=s.toList) (below:=false) (f:=f) (k:=k) (by omega) (by simpa[hj0] using hat) hz)
             clear hat
             go_wp2_with fail
             refine cN.mono ?_
             rintro e w2 ⟨rfl,hr2,hm2⟩
             have c1:w2.cell? ⟨w.heap.size+1+1+1,1,none⟩=some (.int .i64 ((f+j+1:Nat):Int)):=hr2.cell 1
             have hO2:=hO.mv (b:=w.heap.size+1+1+1) (by omega) hm2
             have hB2:Below (w.heap.size+3) W w2:=hB.trans (hm2.below lr)
             have hs2:w.heap.size+4≤w2.heap.size:=Nat.le_trans hsz hm2.size
             have hsb:=zh (show ((fl false c).toNat:Int)=(c.toNat:Int) from rfl)
             go_wp2_with fail
             refine(must_no _ _).mono ?_
             rintro e w3 ⟨rfl,rfl⟩
             exact leaves_bad _ _ _ _ _ rfl rfl rfl hRes hB2 hBel (takeE_mag HE.out (HZ.out)) (by omega)
           · have hz0:c.toNat≠0:=fun e=>hz (UInt8.toNat_inj.1 (by simp only [fl,Bool.false_eq_true,if_false,e];rfl))
             have q3:decide ((0:Int)<(j:Int))=false:=by simp;omega
             have q4:(((c.toNat:Int)) != 0)=true:=by simp;omega
             have HN:=zh (onE_first (l:=s.toList) (below:=false) (f:=f) (k:=k) (by omega) (by simpa[hj0] using hat) hz)
             clear hat
             go_wp2_with fail
             refine cN.mono ?_
             rintro e w2 ⟨rfl,hr2,hm2⟩
             have c1:w2.cell? ⟨w.heap.size+1+1+1,1,none⟩=some (.int .i64 ((f+j+1:Nat):Int)):=hr2.cell 1
             have hO2:=hO.mv (b:=w.heap.size+1+1+1) (by omega) hm2
             have hB2:Below (w.heap.size+3) W w2:=hB.trans (hm2.below lr)
             have hs2:w.heap.size+4≤w2.heap.size:=Nat.le_trans hsz hm2.size
             have hsb:=zh (show ((fl false c).toNat:Int)=(c.toNat:Int) from rfl)
             go_wp2_with fail
             refine(must_yes _ _).mono ?_
             rintro e w3 ⟨rfl,rfl⟩
             go_wp2_with (at_builtin;refine wpList_append_bytes3 rfl (.tmp 53) (.tmp 55) 99 rfl underlying99 Tryz.info5 rfl (hO2.alloc _) _ [fl false c] 1 _ rfl rfl (bv_cells_oneI _ _ _ hsb.out) (by omega) (by simp;omega) ?_;intro v3 w3 hO3 hg3)
             go_roundw
             case rel =>
              exact⟨j+1,by omega,by omega,by go_num,by rw[HS.out];exact hO3,Rd.grown (hr2.alloc _) (hO2.alloc _) (by omega) hg3,app_below hB2 hs2 hO2 hg3,Nat.le_trans (by simp;omega) hg3.size,zh (.inr HN.out)⟩
             case measure=>simp[intOf];omega
         · have q3:decide ((0:Int)<(j:Int))=true:=by simp;omega
           have HN:=zh (HON.out.resolve_left (by omega))
           clear hat
           go_wp2_with fail
           refine cN.mono ?_
           rintro e w2 ⟨rfl,hr2,hm2⟩
           have c1:w2.cell? ⟨w.heap.size+1+1+1,1,none⟩=some (.int .i64 ((f+j+1:Nat):Int)):=hr2.cell 1
           have hO2:=hO.mv (b:=w.heap.size+1+1+1) (by omega) hm2
           have hB2:Below (w.heap.size+3) W w2:=hB.trans (hm2.below lr)
           have hs2:w.heap.size+4≤w2.heap.size:=Nat.le_trans hsz hm2.size
           have hsb:=zh (show ((fl false c).toNat:Int)=(c.toNat:Int) from rfl)
           go_wp2_with fail
           refine(must_yes _ _).mono ?_
           rintro e w3 ⟨rfl,rfl⟩
           go_wp2_with (at_builtin;refine wpList_append_bytes3 rfl (.tmp 53) (.tmp 55) 99 rfl underlying99 Tryz.info5 rfl (hO2.alloc _) _ [fl false c] 1 _ rfl rfl (bv_cells_oneI _ _ _ hsb.out) (by omega) (by simp;omega) ?_;intro v3 w3 hO3 hg3)
           go_roundw
           case rel =>
            exact⟨j+1,by omega,by omega,by go_num,by rw[HS.out];exact hO3,Rd.grown (hr2.alloc _) (hO2.alloc _) (by omega) hg3,app_below hB2 hs2 hO2 hg3,Nat.le_trans (by simp;omega) hg3.size,zh (.inr HN.out)⟩
           case measure=>simp[intOf];omega
       · by_cases hj0:j=0
         · by_cases hz:fl true c=0
           · have hz0:c.toNat=255:=by have:=congrArg UInt8.toNat hz;simp only [fl,if_true,sub255n] at this;have h0:(0:UInt8).toNat=0:=rfl;omega
             have q3:decide ((0:Int)<(j:Int))=false:=by simp;omega
             have q4:((255-(c.toNat:Int)) != 0)=false:=by simp;omega
             have HZ:=zh (magE_zero (l:=s.toList) (below:=true) (f:=f) (k:=k) (by omega) (by simpa[hj0] using hat) hz)
             clear hat
             go_wp2_with fail
             refine cN.mono ?_
             rintro e w2 ⟨rfl,hr2,hm2⟩
             have c1:w2.cell? ⟨w.heap.size+1+1+1,1,none⟩=some (.int .i64 ((f+j+1:Nat):Int)):=hr2.cell 1
             have hO2:=hO.mv (b:=w.heap.size+1+1+1) (by omega) hm2
             have hB2:Below (w.heap.size+3) W w2:=hB.trans (hm2.below lr)
             have hs2:w.heap.size+4≤w2.heap.size:=Nat.le_trans hsz hm2.size
             have hsb:=zh (show ((fl true c).toNat:Int)=255-(c.toNat:Int) from sub255 c)
             go_wp2_with fail
             refine(must_no _ _).mono ?_
             rintro e w3 ⟨rfl,rfl⟩
             exact leaves_bad _ _ _ _ _ rfl rfl rfl hRes hB2 hBel (takeE_mag HE.out (HZ.out)) (by omega)
           · have hz0:c.toNat≠255:=fun e=>hz (UInt8.toNat_inj.1 (by simp only [fl,if_true,sub255n,e];rfl))
             have q3:decide ((0:Int)<(j:Int))=false:=by simp;omega
             have q4:((255-(c.toNat:Int)) != 0)=true:=by simp;omega
             have HN:=zh (onE_first (l:=s.toList) (below:=true) (f:=f) (k:=k) (by omega) (by simpa[hj0] using hat) hz)
             clear hat
             go_wp2_with fail
             refine cN.mono ?_
             rintro e w2 ⟨rfl,hr2,hm2⟩
             have c1:w2.cell? ⟨w.heap.size+1+1+1,1,none⟩=some (.int .i64 ((f+j+1:Nat):Int)):=hr2.cell 1
             have hO2:=hO.mv (b:=w.heap.size+1+1+1) (by omega) hm2
             have hB2:Below (w.heap.size+3) W w2:=hB.trans (hm2.below lr)
             have hs2:w.heap.size+4≤w2.heap.size:=Nat.le_trans hsz hm2.size
             have hsb:=zh (show ((fl true c).toNat:Int)=255-(c.toNat:Int) from sub255 c)
             go_wp2_with fail
             refine(must_yes _ _).mono ?_
             rintro e w3 ⟨rfl,rfl⟩
             go_wp2_with (at_builtin;refine wpList_append_bytes3 rfl (.tmp 53) (.tmp 55) 99 rfl underlying99 Tryz.info5 rfl (hO2.alloc _) _ [fl true c] 1 _ rfl rfl (bv_cells_oneI _ _ _ hsb.out) (by omega) (by simp;omega) ?_;intro v3 w3 hO3 hg3)
             go_roundw
             case rel =>
              exact⟨j+1,by omega,by omega,by go_num,by rw[HS.out];exact hO3,Rd.grown (hr2.alloc _) (hO2.alloc _) (by omega) hg3,app_below hB2 hs2 hO2 hg3,Nat.le_trans (by simp;omega) hg3.size,zh (.inr HN.out)⟩
             case measure=>simp[intOf];omega
         · have q3:decide ((0:Int)<(j:Int))=true:=by simp;omega
           have HN:=zh (HON.out.resolve_left (by omega))
           clear hat
           go_wp2_with fail
           refine cN.mono ?_
           rintro e w2 ⟨rfl,hr2,hm2⟩
           have c1:w2.cell? ⟨w.heap.size+1+1+1,1,none⟩=some (.int .i64 ((f+j+1:Nat):Int)):=hr2.cell 1
           have hO2:=hO.mv (b:=w.heap.size+1+1+1) (by omega) hm2
           have hB2:Below (w.heap.size+3) W w2:=hB.trans (hm2.below lr)
           have hs2:w.heap.size+4≤w2.heap.size:=Nat.le_trans hsz hm2.size
           have hsb:=zh (show ((fl true c).toNat:Int)=255-(c.toNat:Int) from sub255 c)
           go_wp2_with fail
           refine(must_yes _ _).mono ?_
           rintro e w3 ⟨rfl,rfl⟩
           go_wp2_with (at_builtin;refine wpList_append_bytes3 rfl (.tmp 53) (.tmp 55) 99 rfl underlying99 Tryz.info5 rfl (hO2.alloc _) _ [fl true c] 1 _ rfl rfl (bv_cells_oneI _ _ _ hsb.out) (by omega) (by simp;omega) ?_;intro v3 w3 hO3 hg3)
           go_roundw
           case rel =>
            exact⟨j+1,by omega,by omega,by go_num,by rw[HS.out];exact hO3,Rd.grown (hr2.alloc _) (hO2.alloc _) (by omega) hg3,app_below hB2 hs2 hO2 hg3,Nat.le_trans (by simp;omega) hg3.size,zh (.inr HN.out)⟩
           case measure=>simp[intOf];omega
     · have heq:f+j=s.size:=by omega
       rw[heq] at hrd
       have HZ:=zh (magE_end (l:=s.toList) (below:=below) (f:=f) hlt (by rw[size_of];exact heq) HON.out)
       go_wp2_with fail
       refine(next_no _ s _ hrd hs).mono ?_
       rintro e w2 ⟨rfl,hm2⟩
       have hB2:Below (w.heap.size+3) W w2:=hB.trans (hm2.below lr)
       exact leaves_bad _ _ _ _ _ rfl rfl rfl hRes hB2 hBel (takeE_mag HE.out (HZ.out)) (by rw[size_of])
   · have hjk2:j=k:=by omega
     have HM:=zh (magE_all (l:=s.toList) (below:=below) (f:=f) (k:=k) (by rw[size_of];omega) (hjk2▸HON.out))
     have hres:=hRes.below hB
     obtain⟨r0,r1,r2,r3,r4,r5,r6,r7⟩:=hres
     have c1:wr.cell? ⟨w.heap.size+1+1+1,1,none⟩=some (.int .i64 ((f+j:Nat):Int)):=hrd.cell 1
     have hcv:=hO.drew.conv 99 9 underlying99 underlying5 underlying9
     subst hjk2
     have k0:w.heap.size<wr.heap.size:=by omega
     have k1:w.heap.size+1<wr.heap.size:=by omega
     have k2:w.heap.size+2<wr.heap.size:=by omega
     clear hO hrd hrl
     go_wp2_with fail
     go_region
     go_wp2_with fail
     have hcells:∀ (x:Int),((((wr.setCell ⟨w.heap.size,0,none⟩ (.bool below)).setCell ⟨w.heap.size,1,none⟩ (.string ⟨(readL s.toList below f j).toArray⟩)).setCell ⟨w.heap.size+1,0,none⟩ (.int .i64 x)).setCell ⟨w.heap.size+1+1,0,none⟩ (.int .i64 0)).cell? ⟨w.heap.size,0,none⟩=some (.bool below) ∧
      ((((wr.setCell ⟨w.heap.size,0,none⟩ (.bool below)).setCell ⟨w.heap.size,1,none⟩ (.string ⟨(readL s.toList below f j).toArray⟩)).setCell ⟨w.heap.size+1,0,none⟩ (.int .i64 x)).setCell ⟨w.heap.size+1+1,0,none⟩ (.int .i64 0)).cell? ⟨w.heap.size,1,none⟩=some (.string ⟨(readL s.toList below f j).toArray⟩) ∧
      ((((wr.setCell ⟨w.heap.size,0,none⟩ (.bool below)).setCell ⟨w.heap.size,1,none⟩ (.string ⟨(readL s.toList below f j).toArray⟩)).setCell ⟨w.heap.size+1,0,none⟩ (.int .i64 x)).setCell ⟨w.heap.size+1+1,0,none⟩ (.int .i64 0)).cell? ⟨w.heap.size+1,0,none⟩=some (.int .i64 x) ∧
      ((((wr.setCell ⟨w.heap.size,0,none⟩ (.bool below)).setCell ⟨w.heap.size,1,none⟩ (.string ⟨(readL s.toList below f j).toArray⟩)).setCell ⟨w.heap.size+1,0,none⟩ (.int .i64 x)).setCell ⟨w.heap.size+1+1,0,none⟩ (.int .i64 0)).cell? ⟨w.heap.size+2,0,none⟩=some (.int .i64 0) :=
      fun x=>⟨by simp[go_sem,r0],by simp[go_sem,r1],by simp[go_sem,r2],by simp[go_sem,r3]⟩
     exact leaves_good _ _ _ _ _ _ _ rfl rfl rfl (hcells _).1 (hcells _).2.1 (hcells _).2.2.1 (hcells _).2.2.2 (takeE_ok HE.out HM.out) rfl (by omega)
      (((((hBel.trans (hB.mono (by omega))).setCell lr _).setCell lr _).setCell (Nat.le_succ _) _).setCell (by simp;omega) _).drew
end
