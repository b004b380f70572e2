import Derived.StillTailTactics
import Derived.Test.YtcgnajeenflfaaaGreatDoorP12
import Derived.Test.YtcgnajeenflfaaaGreatDoorP15
import Derived.Test.YtcgnajeenflfaaaGreatDoorP8
set_option maxRecDepth 100000
set_option maxHeartbeats 4000000
set_option linter.all false
open Go.Proofs.Tryz Go.RowKit
namespace Go.Proofs.YtcgnajeenflfaaaGreatDoor
namespace So
def revF:Nat→Nat→Nat→List Int→List Int
 | 0,_,_,l=>l
 | f+1,i,j,l=>if i<j then revF f (i+1) (j-1) (swp l i j) else l
def revM (l:List Int):List Int:=revF l.length 0 (l.length-1) l
theorem revF_end {f i j:Nat} {l:List Int} (h:¬ i<j):revF f i j l=l:=by
 cases f with
 | zero=>rfl
 | succ f=>rw[revF,if_neg h]
theorem revF_go {f i j:Nat} {l:List Int} (h:i<j):revF (f+1) i j l=revF f (i+1) (j-1) (swp l i j):=by rw[revF,if_pos h]
theorem revF_length (f i j:Nat) (l:List Int):(revF f i j l).length=l.length:=by
 induction f generalizing i j l with
 | zero=>rfl
 | succ f ih =>
  unfold revF
  split
  · rw[ih,swp_length]
  · rfl
theorem revM_length (l:List Int):(revM l).length=l.length:=revF_length ..
theorem swp_all {l:List Int} {C:Int→Prop} (h:∀ x∈l,C x) {i j:Nat} (hi:i<l.length) (hj:j<l.length):∀ x∈swp l i j,C x:=fun x hx=>h x (swp_mem hi hj hx)
theorem revF_all {C:Int→Prop} (f i j:Nat) (l:List Int) (h:∀ x∈l,C x) (hj:j<l.length):∀ x∈revF f i j l,C x:=by
 induction f generalizing i j l with
 | zero=>exact h
 | succ f ih =>
  by_cases hlt:i<j
  · rw[revF_go hlt]
    exact ih (i+1) (j-1) (swp l i j) (swp_all h (by omega) hj) (by rw[swp_length];omega)
  · rw[revF_end hlt];exact h
theorem revM_all {C:Int→Prop} {l:List Int} (h:∀ x∈l,C x):∀ x∈revM l,C x:=by
 by_cases h0:l.length=0
 · unfold revM
   rw[h0]
   exact h
 · exact revF_all _ _ _ l h (by omega)
theorem reverse_row (g off cap n:Nat) (pre post:List Value) (l:List Int) (w:World) (hn:l.length=n) (hn0:1≤n) (hr:InRow w g off pre post l) (hlen:n≤67108864) :
 Calls prog 203 #[.slice (some ⟨g,off,none⟩) n cap] w fun e w'=>e=.returned (.tuple #[])∧InRow w' g off pre post (revM l)∧Oth g w w':=by
 obtain⟨m,rfl⟩:∃ m,n=m+1:=⟨n-1,by omega⟩
 have HZ:=zh (show revF (m+1) 0 m l=revM l by unfold revM;rw[hn];rfl)
 have HN0:=zh hn
 clear hn
 go_enter func203,ntmps203
 go_wp2_with fail
 go_loopw [2,3] (fun vi vj wr=>∃ (i j f:Nat) (L:List Int),vi=.int .i64 (i:Int)∧vj=.int .i64 (j:Int)∧i+j=m∧j≤f+i∧L.length=m+1∧InRow wr g off pre post L∧Oth g w wr∧RowKit.Hid (revF f i j L=revM l)) (fun vi _ _=>m+1-(intOf vi).toNat)
 case atStart=>exact⟨0,m,m+1,l,rfl,by simp,by omega,by omega,HN0.out,hr,Oth.refl _ _,HZ⟩
 case round =>
  obtain⟨i,j,f,L,rfl,rfl,hij,hf,hL,hrow,ho,HO⟩:=hrel
  by_cases hlt:i<j
  · have q1:decide ((i:Int)<(j:Int))=true:=decide_eq_true (by omega)
    obtain⟨f,rfl⟩:∃ k,f=k+1:=⟨f-1,by omega⟩
    obtain⟨jp,hjp⟩:∃ jp,j-1=jp:=⟨_,rfl⟩
    obtain⟨u,hu⟩:∃ u,L[i]'(by omega)=u:=⟨_,rfl⟩
    obtain⟨v,hv⟩:∃ v,L[j]'(by omega)=v:=⟨_,rfl⟩
    have cu:=hrow.cell i (by omega)
    have cv:=hrow.cell j (by omega)
    have zu:=hrow.frozen i
    have zv:=hrow.frozen j
    rw[hu] at cu
    rw[hv] at cv
    have n1:i≠j:=by omega
    have n2:j≠i:=by omega
    have ji:(i:Int)<(m:Int)+1:=by omega
    have jj:(j:Int)<(m:Int)+1:=by omega
    rw[revF_go hlt,hjp] at HO
    have HM:=zh (show InRow ((wr.setCell ⟨g,off+i,none⟩ (.int .i64 v)).setCell ⟨g,off+j,none⟩ (.int .i64 u)) g off pre post (swp L i j) by rw[← hu,← hv];exact InRow.swp hrow (by omega) (by omega))
    have HL:=zh (show (swp L i j).length=m+1 by rw[swp_length];exact hL)
    have HO3:=zh ho
    have HX:=zh (show (i+1)+jp=m∧jp≤f+(i+1)∧(j:Int)-1=(jp:Int) by omega)
    clear hu hv ho hrow hr hL hjp hij
    go_wp2_with fail
    have mixed:prog.follows Departure.mixedOrders=true:=by kernel_rfl
    go_big_region_o
    all_goals go_wp2
    have hx:=HX.out
    refine⟨⟨i+1,jp,f,swp L i j,by simp,?_,hx.1,hx.2.1,HL.out,HM.out,(HO3.out.trans ((Oth.set _ _).trans (Oth.set _ _))).trans ⟨rfl,rfl,rfl,rfl,fun _ _=>rfl⟩,HO⟩,by simp[intOf];omega⟩
    simp[hx.2.2]
  · have q1:decide ((i:Int)<(j:Int))=false:=decide_eq_false (by omega)
    rw[revF_end hlt] at HO
    have hz:L=revM l:=HO.out
    go_wp2_with fail
    go_end0
    rw[hz] at hrow
    exact⟨rfl,hrow,ho⟩
theorem reverse_nil (a:Option Addr) (cap:Nat) (w:World):Calls prog 203 #[.slice a 0 cap] w fun e w'=>e=.returned (.tuple #[])∧w'=w:=by
 go_enter func203,ntmps203
 go_wp2_with fail
 go_loopw [2,3] (fun vi vj wr=>vi=.int .i64 0∧vj=.int .i64 (-1)∧wr=w) (fun _ _ _=>0)
 case atStart=>exact⟨rfl,by simp,rfl⟩
 case round =>
  obtain⟨rfl,rfl,rfl⟩:=hrel
  go_wp2_with fail
  go_end0
  exact⟨rfl,rfl⟩
end So
section
theorem Reverse_any (v:Value) (l:List Int) (w:World) (base:Nat) (h:OwnN w base v l) (hlen:l.length≤67108864) :
 Calls prog 203 #[v] w fun e w'=>e=.returned (.tuple #[])∧OwnN w' base v (So.revM l)∧(w'=w∨∃ g,v.ownBlock=some g∧Oth g w w'):=by
 rcases h.row with ⟨rfl,rfl⟩ | ⟨g,cap,post,rfl,hg,h1,h2,h3,hrow⟩
 · refine(So.reverse_nil none 0 w).mono ?_
   rintro e w' ⟨rfl,rfl⟩
   exact⟨rfl,OwnN.nil _ _,.inl rfl⟩
 · by_cases h0:l.length=0
   · obtain rfl:=List.eq_nil_of_length_eq_zero h0
     refine(So.reverse_nil (some ⟨g,0,none⟩) cap w).mono ?_
     rintro e w' ⟨rfl,rfl⟩
     exact⟨rfl,h,.inl rfl⟩
   · refine(So.reverse_row g 0 cap l.length [] post l w rfl (by omega) hrow hlen).mono ?_
     rintro e w' ⟨rfl,hr,ho⟩
     have hl:=So.revM_length l
     have:=hr.own (cap:=cap) hg (by rw[hl];exact h1) h2 (by rw[hl];exact h3)
     rw[hl] at this
     exact⟨rfl,this,.inr ⟨g,rfl,ho⟩⟩
end
section
theorem two {W a b:World} (h:Below W.heap.size W a) (k:Below a.heap.size a b):Below W.heap.size W b:=h.trans (k.mono h.size)
theorem size_of (s:ByteArray):s.toList.length=s.size:=by rw[Lib.toList_data,Lib.size_eq]
theorem nil_of_size {s:ByteArray} (h:¬ 0<s.size):s.toList=[]:=List.eq_nil_of_length_eq_zero (by rw[size_of];omega)
theorem head_of (s:ByteArray) (h:0<s.size):s.toList.head?=some s[0]:=by
 rw[Lib.toList_data]
 have:=drop_cons s 0 h
 rw[List.drop_zero] at this
 rw[this];rfl
theorem u8_eqb {c d:UInt8} {n:Int} (hn:(d.toNat:Int)=n) (h:c=d):((c.toNat:Int)==n)=true:=by subst h hn;simp
theorem u8_neb {c d:UInt8} {n:Int} (hn:(d.toNat:Int)=n) (h:¬ c=d):((c.toNat:Int)==n)=false:=by
 rw[← hn,beq_eq_false_iff_ne]
 exact fun e=>h (UInt8.toNat_inj.1 (by omega))
theorem check_any (b:Bool) (s:ByteArray) (w:World) (_hs:s.size≤9223372036854775807) (r:Int) (hr:chk b s.toList=r) :
 Calls prog 83 #[.agg #[.bool b,.string s]] w fun e w'=>e=.returned (.int .i64 r)∧Below w.heap.size w w':=by
 by_cases h1:255<s.size
 · rw[chk_long (by rw[size_of];exact h1)] at hr
   subst hr
   go_enter func83,ntmps83
   go_wp2
   go_ret
   exact⟨rfl,zr.alloc lr _⟩
 · by_cases h2:0<s.size
   · have hne:s.toList.isEmpty=false:=by
      cases h:s.toList with
      | nil=>have:=size_of s;rw[h] at this;simp at this;omega
      | cons _ _=>rfl
     by_cases h3:s[0]=0
     · rw[chk_zero (by rw[size_of];exact h1) (by rw[head_of s h2,h3])] at hr
       have h4:=u8_eqb (n:=0) rfl h3
       subst hr
       clear h3
       go_enter func83,ntmps83
       go_wp2
       go_ret
       exact⟨rfl,zr.alloc lr _⟩
     · rw[chk_ok (by rw[size_of];exact h1) (by intro e;rw[e] at hne;simp at hne) (by rw[head_of s h2];simpa using h3)] at hr
       have h4:=u8_neb (n:=0) rfl h3
       subst hr
       clear h3
       go_enter func83,ntmps83
       go_wp2
       go_ret
       exact⟨rfl,zr.alloc lr _⟩
   · have he:=nil_of_size h2
     have hne:s.toList.isEmpty=true:=by rw[he];rfl
     cases b
     · rw[chk_nil he] at hr
       subst hr
       clear he
       go_enter func83,ntmps83
       go_wp2
       go_ret
       exact⟨rfl,zr.alloc lr _⟩
     · rw[chk_nil_below he] at hr
       subst hr
       clear he
       go_enter func83,ntmps83
       go_wp2
       go_ret
       exact⟨rfl,zr.alloc lr _⟩
end
section
theorem Tryz.info5:(prog.info? 5).map (fun i=>(i.zero,i.size,i.bytes))=some (some (.int .u8 0),1,1):=by kernel_rfl
theorem conv1 (w:World) (c:UInt8) (x:Int) (hx:(c.toNat:Int)=x) :
 (convert 99 9 (.slice (some ⟨w.heap.size,0,none⟩) 1 1)).run prog (w.alloc (.cells #[.int .u8 x] 5))=.ok (.string ⟨#[c]⟩) (w.alloc (.cells #[.int .u8 x] 5)):=by
 refine run_convert_bytes_back (P:=prog) _ 99 9 5 ⟨w.heap.size,0,none⟩ 1 [c] underlying99 underlying5 underlying9 (fun j hj=>?_)
 subst hx
 have hj0:j=0:=by simpa using hj
 subst hj0
 exact one_cell w _ 5 0 _ rfl
theorem conv2 (w:World) (c d:UInt8) (x y:Int) (hx:(c.toNat:Int)=x) (hy:(d.toNat:Int)=y) :
 (convert 99 9 (.slice (some ⟨w.heap.size,0,none⟩) 2 2)).run prog (w.alloc (.cells #[.int .u8 x,.int .u8 y] 5))=.ok (.string ⟨#[c,d]⟩) (w.alloc (.cells #[.int .u8 x,.int .u8 y] 5)):=by
 refine run_convert_bytes_back (P:=prog) _ 99 9 5 ⟨w.heap.size,0,none⟩ 2 [c,d] underlying99 underlying5 underlying9 (fun j hj=>?_)
 subst hx hy
 have:j=0∨j=1:=by simp at hj;omega
 rcases this with rfl | rfl
 · exact two_cells w _ _ 5 0 _ rfl
 · exact two_cells w _ _ 5 1 _ rfl
theorem ownB_one (w:World) (base:Nat) (c:UInt8) (x:Int) (hx:(c.toNat:Int)=x) (hb:base≤w.heap.size):OwnB (w.alloc (.cells #[.int .u8 x] 5)) base (.slice (some ⟨w.heap.size,0,none⟩) 1 1) [c]:=by
 subst hx
 exact⟨rfl,.inr ⟨w.heap.size,1,_,rfl,hb,heap_alloc_new w _,Nat.le_refl _,by unfold maxLen;omega,rfl,rfl⟩⟩
theorem ownB_two (w:World) (base:Nat) (c d:UInt8) (x y:Int) (hx:(c.toNat:Int)=x) (hy:(d.toNat:Int)=y) (hb:base≤w.heap.size):OwnB (w.alloc (.cells #[.int .u8 x,.int .u8 y] 5)) base (.slice (some ⟨w.heap.size,0,none⟩) 2 2) [c,d]:=by
 subst hx hy
 exact⟨rfl,.inr ⟨w.heap.size,2,_,rfl,hb,heap_alloc_new w _,Nat.le_refl _,by unfold maxLen;omega,rfl,rfl⟩⟩
theorem app_list (a b:ByteArray):(a++b).toList=a.toList++b.toList:=by
 rw[Lib.toList_data,Lib.toList_data,Lib.toList_data,ByteArray.data_append,Array.toList_append]
theorem num_cells {w w1:World} {b:Bool} {s:ByteArray} {T:TypeId} (hb:Below (w.alloc (.cells #[.bool b,.string s] T)).heap.size (w.alloc (.cells #[.bool b,.string s] T)) w1) :
 w1.cell? ⟨w.heap.size,0,none⟩=some (.bool b)∧w1.cell? ⟨w.heap.size,1,none⟩=some (.string s)∧w.heap.size<w1.heap.size∧Below w.heap.size w w1 :=
 ⟨(hb.cell (p:=⟨w.heap.size,0,none⟩) (by simp)).trans (by simp),(hb.cell (p:=⟨w.heap.size,1,none⟩) (by simp)).trans (by simp),
  by have:=hb.size;simp at this;omega,(zr.alloc lr _).trans (hb.mono (by simp))⟩
theorem one_byte (n:Nat) (h:n<256):∃ c:UInt8,(c.toNat:Int)=n∧Hid (c=UInt8.ofNat n):=⟨UInt8.ofNat n,ofNat_toNat _ h,rfl⟩
theorem bytes1 (c:UInt8):(⟨#[c]⟩:ByteArray).toList=[c]:=by rw[Lib.toList_data]
theorem bytes2 (c d:UInt8):(⟨#[c,d]⟩:ByteArray).toList=[c,d]:=by rw[Lib.toList_data]
theorem put_plus (s:ByteArray) (w:World) (hr:chk false s.toList=0) :
 Calls prog 127 #[.agg #[.bool false,.string s]] w fun e w'=>∃ p:ByteArray,e=.returned (.tuple #[.string p,.int .i64 0])∧Hid (p.toList=putBytes false s.toList)∧Below w.heap.size w w':=by
 have hlen:=(chk_zero_iff.1 hr).1
 rw[size_of] at hlen
 have HR:=zh hr
 clear hr
 by_cases hk:s.size≤126
 · go_enter func127,ntmps127
   go_wp2_with fail
   refine(check_any false s _ (by omega) 0 HR.out).mono ?_
   rintro e w1 ⟨rfl,hb1⟩
   obtain⟨hc0,hc1,hz,hbw⟩:=num_cells hb1
   obtain⟨c,hc,HC⟩:=one_byte (128+s.size) (by omega)
   have hcv:=conv1 w1 c (128+s.size) (by rw[hc];simp)
   clear hc
   go_wp2
   go_ret2
   exact⟨_,rfl,zh (by rw[app_list,bytes1,HC.out,putBytes,putHead,size_of];simp[hk]),hbw.alloc hbw.size _⟩
 · go_enter func127,ntmps127
   go_wp2_with fail
   refine(check_any false s _ (by omega) 0 HR.out).mono ?_
   rintro e w1 ⟨rfl,hb1⟩
   obtain⟨hc0,hc1,hz,hbw⟩:=num_cells hb1
   obtain⟨c,hc,HC⟩:=one_byte s.size (by omega)
   have hcv:=conv2 w1 255 c 255 s.size rfl hc
   clear hc
   go_wp2
   go_ret2
   exact⟨_,rfl,zh (by rw[app_list,bytes2,HC.out,putBytes,putHead,size_of];simp[hk]),hbw.alloc hbw.size _⟩
def turned (h:List UInt8) (l:List UInt8) (k:Nat):List UInt8:=h++(l.take k).map (255-·)
theorem turned_zero (h l:List UInt8):turned h l 0=h:=by simp[turned]
theorem turned_succ (h:List UInt8) (s:ByteArray) (k:Nat) (hk:k<s.size):turned h s.data.toList (k+1)=turned h s.data.toList k++[255-s[k]]:=by
 rw[turned,take_snoc s k hk,turned];simp
theorem turned_end (h:List UInt8) (s:ByteArray) (k:Nat) (hk:¬ k<s.size):turned h s.data.toList k=h++s.data.toList.map (255-·):=by
 rw[turned,take_end s k hk]
theorem turned_len (h l:List UInt8) (k:Nat):(turned h l k).length≤h.length+k:=by
 have:=List.length_take_le k l
 simp only [turned,List.length_append,List.length_map];omega
theorem bv_cells_oneI (w:World) (c:UInt8) (x:Int) (h:(c.toNat:Int)=x) {T:TypeId}:∀ j u,(bv [c])[j]?=some u→(w.alloc (.cells #[.int .u8 x] T)).cell? ((⟨w.heap.size,0,none⟩:Addr).add j)=some u:=by subst h;exact bv_cells_one w c T
theorem put_minus (s:ByteArray) (w:World) (hr:chk true s.toList=0) :
 Calls prog 127 #[.agg #[.bool true,.string s]] w fun e w'=>∃ p:ByteArray,e=.returned (.tuple #[.string p,.int .i64 0])∧Hid (p.toList=putBytes true s.toList)∧Below w.heap.size w w':=by
 have hlen:=(chk_zero_iff.1 hr).1
 rw[size_of] at hlen
 have HR:=zh hr
 clear hr
 by_cases hk:s.size≤126
 · have hk2:¬ 126<s.size:=by omega
   go_enter func127,ntmps127
   go_wp2_with fail
   refine(check_any true s _ (by omega) 0 HR.out).mono ?_
   rintro e w1 ⟨rfl,hb1⟩
   obtain⟨hc0,hc1,hz,hbw⟩:=num_cells hb1
   obtain⟨c,hc,HC⟩:=one_byte (128-s.size) (by omega)
   have hO:=zh (ownB_one w1 w1.heap.size c (128-s.size) (by rw[hc];omega) lr)
   clear hc
   go_wp2
   go_loopw [6,7,54] (fun v _ i wr=>∃ k:Nat,k≤s.size∧i=.int .i64 k∧OwnB wr w1.heap.size v (turned [c] s.data.toList k)∧Below w1.heap.size w1 wr) (fun _ _ i _=>s.size-(intOf i).toNat)
   case atStart=>exact⟨0,Nat.zero_le _,rfl,by rw[turned_zero];exact hO.out,zr.alloc lr _⟩
   case round =>
    obtain⟨k,hkk,rfl,hO1,hB⟩:=hrel
    have hcx:wr.cell? ⟨w.heap.size,1,none⟩=some (.string s):=(hB.cell (p:=⟨w.heap.size,1,none⟩) hz).trans hc1
    have hzr:w.heap.size<wr.heap.size:=by have:=hB.size;omega
    have hlk:=turned_len [c] s.data.toList k
    simp only [List.length_cons,List.length_nil] at hlk
    clear hc0 hc1 hO
    by_cases hlt:k<s.size
    · have hbd:=s[k].toNat_lt
      have hsb:=zh (sub255 s[k])
      go_wp2_with (at_builtin;refine wpList_append_bytes rfl (.tmp 57) (.tmp 63) 99 rfl underlying99 Tryz.info5 rfl (hO1.alloc _) _ [255-s[k]] 1 _ rfl rfl (bv_cells_oneI _ _ _ hsb.out) (by simp;omega) (hB.alloc hB.size _) (by simp;have:=hB.size;omega) ?_;intro v2 w2 hO2 hB2 hs2)
      go_roundw
      case rel=>exact⟨k+1,by omega,by go_num,by rw[turned_succ _ s k hlt];exact hO2,hB2⟩
      case measure=>simp[intOf];omega
    · have hcv:=hO1.conv 99 9 underlying99 underlying5 underlying9
      rw[turned_end _ s k hlt] at hcv
      go_wp2
      go_ret2
      exact⟨_,rfl,zh (by rw[ByteArray.toList_mk,HC.out,putBytes,putHead,size_of,Lib.toList_data];simp[hk]),hbw.trans (hB.mono (Nat.le_of_lt hz))⟩
 · have hk2:126<s.size:=by omega
   have hk3:decide ((126:Int)<(s.size:Int))=true:=by simp;omega
   go_enter func127,ntmps127
   go_wp2_with fail
   refine(check_any true s _ (by omega) 0 HR.out).mono ?_
   rintro e w1 ⟨rfl,hb1⟩
   obtain⟨hc0,hc1,hz,hbw⟩:=num_cells hb1
   obtain⟨c,hc,HC⟩:=one_byte (255-s.size) (by omega)
   have hO:=zh (fun (o:Obj)=>ownB_two (w1.alloc o) w1.heap.size 1 c 1 (255-s.size) rfl (by rw[hc];omega) (by simp))
   clear hc
   go_wp2
   go_loopw [6,7,54] (fun v _ i wr=>∃ k:Nat,k≤s.size∧i=.int .i64 k∧OwnB wr w1.heap.size v (turned [1,c] s.data.toList k)∧Below w1.heap.size w1 wr) (fun _ _ i _=>s.size-(intOf i).toNat)
   case atStart=>exact⟨0,Nat.zero_le _,rfl,by rw[turned_zero];simpa using hO.out _,(zr.alloc lr _).alloc (by simp) _⟩
   case round =>
    obtain⟨k,hkk,rfl,hO1,hB⟩:=hrel
    have hcx:wr.cell? ⟨w.heap.size,1,none⟩=some (.string s):=(hB.cell (p:=⟨w.heap.size,1,none⟩) hz).trans hc1
    have hzr:w.heap.size<wr.heap.size:=by have:=hB.size;omega
    have hlk:=turned_len [1,c] s.data.toList k
    simp only [List.length_cons,List.length_nil] at hlk
    clear hc0 hc1 hO
    by_cases hlt:k<s.size
    · have hbd:=s[k].toNat_lt
      have hsb:=zh (sub255 s[k])
      go_wp2_with (at_builtin;refine wpList_append_bytes rfl (.tmp 57) (.tmp 63) 99 rfl underlying99 Tryz.info5 rfl (hO1.alloc _) _ [255-s[k]] 1 _ rfl rfl (bv_cells_oneI _ _ _ hsb.out) (by simp;omega) (hB.alloc hB.size _) (by simp;have:=hB.size;omega) ?_;intro v2 w2 hO2 hB2 hs2)
      go_roundw
      case rel=>exact⟨k+1,by omega,by go_num,by rw[turned_succ _ s k hlt];exact hO2,hB2⟩
      case measure=>simp[intOf];omega
    · have hcv:=hO1.conv 99 9 underlying99 underlying5 underlying9
      rw[turned_end _ s k hlt] at hcv
      go_wp2
      go_ret2
      exact⟨_,rfl,zh (by rw[ByteArray.toList_mk,HC.out,putBytes,putHead,size_of,Lib.toList_data];simp[hk]),hbw.trans (hB.mono (Nat.le_of_lt hz))⟩
theorem put_ok (b:Bool) (s:ByteArray) (w:World) (hr:chk b s.toList=0) :
 Calls prog 127 #[.agg #[.bool b,.string s]] w fun e w'=>∃ p:ByteArray,e=.returned (.tuple #[.string p,.int .i64 0])∧Hid (p.toList=putBytes b s.toList)∧Below w.heap.size w w':=by
 cases b
 · exact put_plus s w hr
 · exact put_minus s w hr
end
section
theorem cmpString_any (a b:ByteArray) (w:World) (r:Int) (hr:cmp a.toList b.toList=r) :
 Calls prog 107 #[.string a,.string b] w fun e w'=>e=.returned (.int .i64 r)∧Below w.heap.size w w':=by
 have hl:=less_iff a.toList b.toList
 have he:=eq_iff a.toList b.toList
 rw[hr] at hl he
 rcases cmp_three a.toList b.toList with h | h | h<;>rw[h] at hr<;>subst hr
 · have hl':Op.bytesLess a.toList b.toList=true:=by rw[hl];rfl
   clear hl he h
   go_enter func107,ntmps107
   go_wp2
   go_ret
   exact⟨rfl,zr⟩
 · have hl':Op.bytesLess a.toList b.toList=false:=by rw[hl];rfl
   have he':(a.toList==b.toList)=true:=by rw[he];rfl
   clear hl he h
   go_enter func107,ntmps107
   go_wp2
   go_ret
   exact⟨rfl,zr⟩
 · have hl':Op.bytesLess a.toList b.toList=false:=by rw[hl];rfl
   have he':(a.toList==b.toList)=false:=by rw[he];rfl
   clear hl he h
   go_enter func107,ntmps107
   go_wp2
   go_ret
   exact⟨rfl,zr⟩
theorem order_any (a b:ByteArray) (w:World) (_ha:a.size≤9223372036854775807) (_hb:b.size≤9223372036854775807) (r:Int) (hr:mcmp a.toList b.toList=r) :
 Calls prog 84 #[.string a,.string b] w fun e w'=>e=.returned (.int .i64 r)∧Below w.heap.size w w':=by
 by_cases h1:a.size<b.size
 · have:r=-1:=by rw[← hr];unfold mcmp;rw[if_pos (by rw[size_of,size_of];exact h1)]
   subst this
   clear hr
   go_enter func84,ntmps84
   go_wp2
   go_ret
   exact⟨rfl,zr⟩
 · by_cases h2:b.size<a.size
   · have:r=1:=by rw[← hr];unfold mcmp;rw[if_neg (by rw[size_of,size_of];exact h1),if_pos (by rw[size_of,size_of];exact h2)]
     subst this
     clear hr
     go_enter func84,ntmps84
     go_wp2
     go_ret
     exact⟨rfl,zr⟩
   · have HR:=zh (show cmp a.toList b.toList=r by rw[← hr];unfold mcmp;rw[if_neg (by rw[size_of,size_of];exact h1),if_neg (by rw[size_of,size_of];exact h2)])
     clear hr
     go_enter func84,ntmps84
     go_wp2_with (first | (go_at_call 107;refine(cmpString_any _ _ _ r HR.out).mono ?_;rintro e w1 ⟨rfl,hb1⟩) | go_in)
     go_ret
     exact⟨rfl,hb1⟩
theorem keep {W w1:World} (hb:Below W.heap.size W w1) {p:Addr} {v:Value} (h:W.cell? p=some v):w1.cell? p=some v:=(hb.cell (World.block_lt_of_cell? W p h)).trans h
theorem num2_cells {w w1:World} {x y:Bool} {a b:ByteArray} {T:TypeId}
 (hb:Below ((w.alloc (.cells #[.bool x,.string a] T)).alloc (.cells #[.bool y,.string b] T)).heap.size ((w.alloc (.cells #[.bool x,.string a] T)).alloc (.cells #[.bool y,.string b] T)) w1) :
 w1.cell? ⟨w.heap.size,0,none⟩=some (.bool x)∧w1.cell? ⟨w.heap.size,1,none⟩=some (.string a)∧w1.cell? ⟨w.heap.size+1,0,none⟩=some (.bool y)∧w1.cell? ⟨w.heap.size+1,1,none⟩=some (.string b) ∧
  w.heap.size+1<w1.heap.size∧Below w.heap.size w w1 :=
 ⟨keep hb (by simp),keep hb (by simp),keep hb (by simp),keep hb (by simp),by have:=hb.size;simp at this;omega,
  ((zr.alloc lr _).alloc (by simp) _).trans (hb.mono (by simp;omega))⟩
theorem compare_ok (x:Bool) (a:ByteArray) (y:Bool) (b:ByteArray) (w:World) (ha:chk x a.toList=0) (hb:chk y b.toList=0) (r:Int) (hr:ncmp x a.toList y b.toList=r) :
 Calls prog 50 #[.agg #[.bool x,.string a],.agg #[.bool y,.string b]] w fun e w'=>e=.returned (.tuple #[.int .i64 r,.int .i64 0])∧Below w.heap.size w w':=by
 have la:=(chk_zero_iff.1 ha).1
 have lb:=(chk_zero_iff.1 hb).1
 rw[size_of] at la lb
 have HA:=zh ha
 have HB:=zh hb
 clear ha hb
 cases x<;>cases y
 all_goals
  simp only [ncmp,if_true,if_false,Bool.false_eq_true] at hr
  have HR:=zh hr
  clear hr
  go_enter func50,ntmps50
  go_wp2_with fail
  refine(check_any _ a _ (by omega) 0 HA.out).mono ?_
  rintro e w1 ⟨rfl,hb1⟩
  obtain⟨c0,c1,c2,c3,hz,hbw⟩:=num2_cells hb1
  go_wp2_with fail
  refine(check_any _ b _ (by omega) 0 HB.out).mono ?_
  rintro e w2 ⟨rfl,hb2⟩
  have d0:=keep hb2 c0
  have d1:=keep hb2 c1
  have d2:=keep hb2 c2
  have d3:=keep hb2 c3
  have hz2:w.heap.size+1<w2.heap.size:=by have:=hb2.size;omega
  clear c0 c1 c2 c3
  go_wp2_with (go_at_call 84;refine(order_any _ _ _ (by omega) (by omega) r HR.out).mono ?_;rintro e w3 ⟨rfl,hb3⟩)
  go_ret2
  first | exact⟨rfl,two (two hbw hb2) hb3⟩ | (subst hr;exact⟨rfl,two hbw hb2⟩) | (have h:=HR.out;subst h;exact⟨rfl,two hbw hb2⟩)
theorem compare_bad (x:Bool) (a:ByteArray) (y:Bool) (b:ByteArray) (w:World) (ha:a.size≤9223372036854775807) (hb:b.size≤9223372036854775807) (r:Int)
 (hr:(chk x a.toList=r∧r≠0)∨(chk x a.toList=0∧chk y b.toList=r∧r≠0)) :
 Calls prog 50 #[.agg #[.bool x,.string a],.agg #[.bool y,.string b]] w fun e w'=>e=.returned (.tuple #[.int .i64 0,.int .i64 r])∧Below w.heap.size w w':=by
 rcases hr with ⟨h1,h2⟩ | ⟨h0,h1,h2⟩
 · have f:(r != 0)=true:=by simpa using h2
   have HA:=zh h1
   clear h1 h2
   go_enter func50,ntmps50
   go_wp2_with fail
   refine(check_any _ a _ (by omega) r HA.out).mono ?_
   rintro e w1 ⟨rfl,hb1⟩
   obtain⟨_,_,_,_,_,hbw⟩:=num2_cells hb1
   go_wp2
   go_ret2
   exact⟨rfl,hbw⟩
 · have f:(r != 0)=true:=by simpa using h2
   have HA:=zh h0
   have HB:=zh h1
   clear h0 h1 h2
   go_enter func50,ntmps50
   go_wp2_with fail
   refine(check_any _ a _ (by omega) 0 HA.out).mono ?_
   rintro e w1 ⟨rfl,hb1⟩
   obtain⟨c0,c1,c2,c3,hz,hbw⟩:=num2_cells hb1
   go_wp2_with fail
   refine(check_any _ b _ (by omega) r HB.out).mono ?_
   rintro e w2 ⟨rfl,hb2⟩
   go_wp2
   go_ret2
   exact⟨rfl,two hbw hb2⟩
end
section
structure Xv (P:Nat→Prop) (w w':World):Prop where
 os:w'.os=w.os
 tape:w'.tape=w.tape
 output:w'.output=w.output
 size:w.heap.size≤w'.heap.size
 block:∀ k,k<w.heap.size→¬ P k→w'.heap[k]?=w.heap[k]?
section
variable {P Q:Nat→Prop} {w w' w'':World}
theorem Xv.refl (P:Nat→Prop) (w:World):Xv P w w:=⟨rfl,rfl,rfl,Nat.le_refl _,fun _ _ _=>rfl⟩
theorem Xv.drew (h:Xv P w w'):Xv P w w'.drew:=⟨h.os,h.tape,h.output,h.size,h.block⟩
theorem Xv.undrew (h:Xv P w.drew w'):Xv P w w':=⟨h.os,h.tape,h.output,h.size,h.block⟩
theorem Xv.drewN (h:Xv P w w') (n:Nat):Xv P w (w'.drewN n):=⟨h.os,h.tape,h.output,h.size,h.block⟩
theorem Xv.trans (h:Xv P w w') (k:Xv Q w' w'') (hQ:∀ i,i<w.heap.size→Q i→P i):Xv P w w'' :=
 ⟨k.os.trans h.os,k.tape.trans h.tape,k.output.trans h.output,Nat.le_trans h.size k.size,fun i hi hp=>(k.block i (Nat.lt_of_lt_of_le hi h.size) (fun q=>hp (hQ i hi q))).trans (h.block i hi hp)⟩
theorem Xv.mono (h:Xv P w w') (hQ:∀ i,i<w.heap.size→P i→Q i):Xv Q w w':=⟨h.os,h.tape,h.output,h.size,fun i hi hp=>h.block i hi (fun q=>hp (hQ i hi q))⟩
theorem Xv.of_below (h:Below w.heap.size w w'):Xv P w w':=⟨h.os,h.tape,h.output,h.size,fun k hk _=>h.block k hk⟩
theorem Xv.alloc (h:Xv P w w') (o:Obj):Xv P w (w'.alloc o):=h.trans (Q:=fun _=>False) (Xv.of_below (zr.alloc lr o)) (fun _ _ e=>e.elim)
theorem Xv.then (h:Xv P w w') (k:Below w'.heap.size w' w''):Xv P w w'':=h.trans (Q:=fun _=>False) (Xv.of_below k) (fun _ _ e=>e.elim)
theorem Xv.set_ (h:Xv P w w') {b:Nat} (hb:b<w.heap.size→P b) (i:Nat) (v:Value):Xv P w (w'.setCell ⟨b,i,none⟩ v) :=
 ⟨h.os,h.tape,h.output,by simpa[World.setCell] using h.size,fun k hk hp=>by
  have hne:k≠b:=fun e=>hp (by subst e;exact hb hk)
  rw[Below.heap_setCell _ _ _ _ hne];exact h.block k hk hp⟩
theorem Xv.below {B:Nat} (h:Xv P w w') (hP:∀ k,k<B→¬ P k) (hs:B≤w.heap.size):Below B w w':=⟨h.os,h.tape,h.output,h.size,fun k hk=>h.block k (by omega) (hP k hk)⟩
theorem Xv.blk {g:Nat} {t:TypeId} {cs:Array Value} (h:Xv P w w') (hg:¬ P g) (k:Blk w g t cs):Blk w' g t cs:=(h.block g k.lt hg).trans k
theorem Xv.same {lo hi:Nat} (h:Xv P w w') (hb:∀ k,lo≤k→k<hi→¬ P k) (h2:hi≤w.heap.size):V.Same lo hi w w':=fun k h1 h3=>h.block k (by omega) (hb k h1 h3)
theorem Xv.cell {p:Addr} {v:Value} (h:Xv P w w') (hp:¬ P p.block) (hc:w.cell? p=some v):w'.cell? p=some v :=
 (World.cell?_of_block (w:=w) (h.block _ (World.block_lt_of_cell? w p hc) hp)).trans hc
theorem Xv.grown {row:Option Nat} (h:Xv P w w') (hr:∀ k,row=some k→k<w.heap.size→P k) (hg:w'.grownBy w'' row):Xv P w w'' :=
 h.trans (Q:=fun k=>row=some k) ⟨hg.os,hg.tape,hg.output,hg.size,fun k hk hp=>hg.block k hk (fun e=>hp e.symm)⟩ (fun i hi e=>hr i e hi)
end
end
namespace Es
theorem Tryz.info5:(prog.info? 5).map (fun i=>(i.zero,i.size,i.bytes))=some (some (.int .u8 0),1,1):=by kernel_rfl
theorem ret_str {l m:List UInt8} (h:l=m):Ending.returned (.string ⟨l.toArray⟩)=Ending.returned (.string ⟨m.toArray⟩):=by rw[h]
theorem escape_any (s:ByteArray) (w:World) (hs:s.size≤1099511627776) :
 Calls prog 173 #[.string s] w fun e w'=>e=.returned (.string ⟨(esc s.data.toList++[0,1]).toArray⟩)∧Below w.heap.size w w':=by
 obtain⟨i0,hi,hz0,hz1,hz2⟩:=info_parts Tryz.info5
 go_enter func173,ntmps173
 go_wp2_with (first | (at_make;refine wpList_make_own _ rfl _ _ 99 rfl w.heap.size 5 i0 (.int .u8 0) 1 underlying99 hi hz0 hz1 _ _ _ (s.size+2) rfl rfl (by omega) ?c1 ?c2 ?c3 ?_))
 case c1=>rw[hz2];omega
 case c2=>unfold maxLen;omega
 case c3=>exact Nat.le_refl _
 intro w1 hown hgrow
 have hB:Below w.heap.size w w1:=zr.grown hgrow lr (by intro k hk;cases hk)
 have hO:OwnB w1 w.heap.size (.slice (some ⟨w.heap.size,0,none⟩) 0 (s.size+2)) []:=hown
 have hsz1:=hB.size
 clear hown hgrow
 go_wp2
 go_loopw [3,4,11] (fun v _ i wr=>∃ k:Nat,k≤s.size∧i=.int .i64 k∧OwnB wr w.heap.size v (esc (s.data.toList.take k))∧Below w.heap.size w wr) (fun _ _ i _=>s.size-(intOf i).toNat)
 case atStart=>exact⟨0,Nat.zero_le _,rfl,by simpa[esc] using hO,hB⟩
 case round =>
  clear hO hB hsz1 hi hz0 hz1 hz2
  obtain⟨k,hk,rfl,hO,hB⟩:=hrel
  have hlen:=esc_len (s.data.toList.take k)
  have hlk:(s.data.toList.take k).length≤k:=List.length_take_le _ _
  by_cases hlt:k<s.size
  · have hst:=take_snoc s k hlt
    have HE:=zh (show esc (s.data.toList.take (k+1))=esc (s.data.toList.take k)++(if s[k]=0 then [0,255] else [s[k]]) by rw[hst,esc_append];simp[esc])
    clear hst
    go_wp2_with (first
     | (at_builtin;refine wpList_append_bytes rfl (.tmp 14) (.tmp 18) 99 rfl underlying99 Tryz.info5 rfl (hO.alloc _) _ [s[k]] 1 _ rfl rfl (bv_cells_one _ _ _) (by omega) (hB.alloc hB.size _) (by simp;have:=hB.size;omega) ?_;intro v1 w1 hO1 hB1 hs1)
     | (at_builtin;refine wpList_append_bytes rfl (.tmp 24) (.tmp 25) 99 rfl underlying99 Tryz.info5 rfl (hO1.alloc _) _ [255] 1 _ rfl rfl (bv_cells_one _ 255 _) (by simp;omega) (hB1.alloc hs1 _) (by simp;omega) ?_;intro v2 w2 hO2 hB2 hs2))
    · have h0:s[k]=0:=UInt8.toNat_inj.1 (by have:((s[k].toNat:Int)==0)=true:=(by assumption);simp at this;simpa using this)
      go_roundw
      case rel=>exact⟨k+1,by omega,by go_num,by rw[HE.out,if_pos h0];simpa[h0] using hO2,hB2⟩
      case measure=>simp[intOf];omega
    · have h0:¬ s[k]=0:=fun h=>by
       have h1:((s[k].toNat:Int)==0)=false:=by assumption
       simp[h] at h1
      go_roundw
      case rel=>exact⟨k+1,by omega,by go_num,by rw[HE.out,if_neg h0];exact hO1,hB1⟩
      case measure=>simp[intOf];omega
  · go_wp2_with (first
     | (at_builtin;refine wpList_append_bytes rfl (.tmp 28) (.tmp 29) 99 rfl underlying99 Tryz.info5 rfl (hO.alloc _) _ [0,1] 2 _ rfl rfl (bv_cells_two _ 0 1 _) (by omega) (hB.alloc hB.size _) (by simp;have:=hB.size;omega) ?_;intro v1 w1 hO1 hB1 hs1;have hcv:=hO1.conv 99 9 underlying99 underlying5 underlying9))
    go_ret
    exact⟨ret_str (by rw[take_end s k hlt]),hB1⟩
theorem OwnB_cellAt {w:World} {base g n cap:Nat} {l:List UInt8} (h:OwnB w base (.slice (some ⟨g,0,none⟩) n cap) l) (hn:n=l.length) (k:Nat) (hk:k<l.length) :
 w.cell? ⟨g,k,none⟩=some (.int .u8 (l[k].toNat:Int)):=by
 subst hn
 have:=World.ownsRow.cellAt h k (by omega)
 rw[this]
 simp[bv,List.getElem?_eq_getElem hk]
theorem OwnB_frozenAt {w:World} {base g n cap:Nat} {l:List UInt8} (h:OwnB w base (.slice (some ⟨g,0,none⟩) n cap) l) (hn:n=l.length) (k:Nat):w.frozen? ⟨g,k,none⟩=false:=by
 subst hn
 exact World.ownsRow.frozenAt h k
theorem OwnB_stored {w:World} {base g n cap:Nat} {l:List UInt8} (h:OwnB w base (.slice (some ⟨g,0,none⟩) n cap) l) (hn:n=l.length) (k:Nat) (c:UInt8) :
 OwnB (w.setCell ⟨g,k,none⟩ (.int .u8 (c.toNat:Int))) base (.slice (some ⟨g,0,none⟩) n cap) (l.set k c):=by
 subst hn
 have:=(World.ownsRow.stored h k (.int .u8 (c.toNat:Int))).1
 unfold OwnB
 rw[List.length_set]
 have e:bv (l.set k c)=(bv l).set k (.int .u8 (c.toNat:Int)):=by simp[bv,List.map_set]
 rw[e]
 exact this
def flipTo (l:List UInt8) (k:Nat):List UInt8:=(l.take k).map (255-·)++l.drop k
theorem flipTo_zero (l:List UInt8):flipTo l 0=l:=by simp[flipTo]
theorem flipTo_length (l:List UInt8) (k:Nat) (h:k≤l.length):(flipTo l k).length=l.length:=by simp[flipTo];omega
theorem flipTo_end (l:List UInt8) (k:Nat) (h:l.length≤k):flipTo l k=l.map (255-·):=by simp[flipTo,List.take_of_length_le h,List.drop_of_length_le h]
theorem flipTo_get (l:List UInt8) (k:Nat) (h:k<l.length) (h2:k<(flipTo l k).length):(flipTo l k)[k]=l[k]:=by
 simp[flipTo,List.getElem_append_right,Nat.min_eq_left (Nat.le_of_lt h)]
theorem flipTo_set (l:List UInt8) (k:Nat) (h:k<l.length):(flipTo l k).set k (255-l[k])=flipTo l (k+1):=by
 unfold flipTo
 rw[List.set_append,if_neg (by simp;omega),List.length_map,List.length_take,Nat.min_eq_left (Nat.le_of_lt h),Nat.sub_self,List.drop_eq_getElem_cons h,List.set_cons_zero,List.take_succ_eq_append_getElem h,List.map_append,List.append_assoc]
 rfl
theorem sub255 (c:UInt8):((255-c:UInt8).toNat:Int)=255-(c.toNat:Int):=by
 have:=c.toNat_lt
 rw[UInt8.toNat_sub]
 have h255:(255:UInt8).toNat=255:=rfl
 rw[h255]
 omega
theorem flip_any (s:ByteArray) (w:World) (hs:s.size≤1099511627776) :
 Calls prog 103 #[.string s] w fun e w'=>e=.returned (.string ⟨(s.data.toList.map (255-·)).toArray⟩)∧Below w.heap.size w w':=by
 obtain⟨i0,hi,hz0,hz1,hz2⟩:=info_parts Tryz.info5
 go_enter func103,ntmps103
 go_wp2_with (first 
  | (at_make;refine wpList_make_full _ rfl _ _ 99 rfl w.heap.size 5 i0 (.int .u8 0) 1 underlying99 hi hz0 hz1 _ _ _ _ s.size rfl rfl (by omega) (by omega) ?c1 ?c2 ?c3 ?_))
 case c1=>rw[hz2];omega
 case c2=>unfold maxLen;omega
 case c3=>exact Nat.le_refl _
 intro w1 hown hgrow
 have hB:Below w.heap.size w w1:=zr.grown hgrow lr (by intro k hk;cases hk)
 have hO:OwnB w1 w.heap.size (.slice (some ⟨w.heap.size,0,none⟩) s.size s.size) (List.replicate s.size 0):=by
  unfold OwnB
  rw[toList_madeCells_one] at hown
  simpa[bv] using hown
 have hsz1:=hB.size
 clear hown hgrow hi hz0 hz1 hz2
 go_wp2_with (refine wpList_copy_str (o:=⟨some 10,_,_,_,_,_⟩) rfl _ _ 99 9 rfl underlying99 Tryz.info5 s rfl rfl hO hB hsz1 ?_;intro w2 hO2 hB2 hs2;clear hO hB hsz1)
 go_loopw [4,13] (fun _ i wr=>∃ k:Nat,k≤s.size∧i=.int .i64 k∧OwnB wr w.heap.size (.slice (some ⟨w.heap.size,0,none⟩) s.size s.size) (flipTo s.data.toList k)∧Below w.heap.size w wr) (fun _ i _=>s.size-(intOf i).toNat)
 case atStart=>exact⟨0,Nat.zero_le _,rfl,by rw[flipTo_zero];exact hO2,hB2⟩
 case round =>
  clear hO2 hB2 hs2
  obtain⟨k,hk,rfl,hO,hB⟩:=hrel
  have hsl:s.size=s.data.toList.length:=by rw[Array.length_toList];rfl
  have hfl:=flipTo_length s.data.toList k (by omega)
  have hl:s.size=(flipTo s.data.toList k).length:=by omega
  by_cases hlt:k<s.size
  · have hc:=OwnB_cellAt hO hl k (by omega)
    rw[flipTo_get _ k (by omega)] at hc
    have hf:=OwnB_frozenAt hO hl k
    have hst:=zh (OwnB_stored hO hl k (255-s.data.toList[k]))
    rw[flipTo_set _ k (by omega)] at hst
    obtain⟨c,hcc⟩:∃ c,c=s.data.toList[k]:=⟨_,rfl⟩
    rw[← hcc] at hc hst
    have hbd:=c.toNat_lt
    clear hsl hfl hl hcc
    go_wp2
    go_roundw
    case rel=>exact⟨k+1,by omega,by go_num,by rw[← sub255];exact hst.out,hB.setCell lr _⟩
    case measure=>simp[intOf];omega
  · have hcv:=hO.conv 99 9 underlying99 underlying5 underlying9
    rw[flipTo_end _ k (by omega)] at hcv
    clear hsl hfl hl
    go_wp2
    go_ret
    exact⟨rfl,hB⟩
end Es
namespace V
structure MarkCells (w:World) (b o:Nat):Prop where
 c0:w.cell? ⟨b,o,none⟩=some (.int .u8 99)
 c1:w.cell? ⟨b,o+1,none⟩=some (.bool false)
 c2:w.cell? ⟨b,o+2,none⟩=some (.bool false)
 c3:w.cell? ⟨b,o+3,none⟩=some (.string ⟨#[]⟩)
 c4:w.cell? ⟨b,o+4,none⟩=some (.string ⟨#[109,97,114,107]⟩)
 c5:w.cell? ⟨b,o+5,none⟩=some (.slice none 0 0)
theorem MarkCells.same {lo hi b o:Nat} {w w':World} (h:MarkCells w b o) (hs:Same lo hi w w') (h1:lo≤b) (h2:b<hi):MarkCells w' b o :=
 ⟨hs.cell h1 h2 h.c0,hs.cell h1 h2 h.c1,hs.cell h1 h2 h.c2,hs.cell h1 h2 h.c3,hs.cell h1 h2 h.c4,hs.cell h1 h2 h.c5⟩
inductive OwnI (w:World) (m:Bool):Nat→Nat→List Pt→Value→Prop
 | nil (lo hi:Nat) (hm:m=false):OwnI w m lo hi [] (.slice none 0 0)
 | row (lo hi:Nat) (l:List Pt) (g cap:Nat) (cur:Array Value) (F:Nat→Value) (L H:Nat→Nat) (h1:lo≤g) (h2:g<hi) (blk:w.heap[g]?=some (.cells cur 57 (0,0))) (hcap:l.length≤cap)
  (hsz:cur.size=cap*6) (hmax:cap≤maxLen) (cells:∀ j (h:j<l.length),PartCells w g (j*6) l[j] (F j)) (fits:∀ j (h:j<l.length),Fit l[j])
  (rng:∀ j,j<l.length→lo≤L j∧L j≤H j∧H j≤hi∧¬ (L j≤g∧g<H j)) (apart:∀ i j,i<j→j<l.length→H i≤L j)
  (room:m=true→cap=l.length+2∧MarkCells w g (l.length*6)∧MarkCells w g (l.length*6+6))
  (deep:∀ j (h:j<l.length),OwnI w m (L j) (H j) l[j].items (F j)):OwnI w m lo hi l (.slice (some ⟨g,0,none⟩) l.length cap)
theorem OwnI.same {m:Bool} {lo hi:Nat} {w w':World} {l:List Pt} {v:Value} (h:OwnI w m lo hi l v) (hs:Same lo hi w w'):OwnI w' m lo hi l v:=by
 induction h with
 | nil lo hi hm=>exact .nil lo hi hm
 | row lo hi l g cap cur F L H h1 h2 blk hcap hsz hmax cells fits rng apart room deep ih =>
  exact .row lo hi l g cap cur F L H h1 h2 ((hs g h1 h2).trans blk) hcap hsz hmax (fun j hj=>(cells j hj).same hs h1 h2) fits rng apart
   (fun hm=>⟨(room hm).1,(room hm).2.1.same hs h1 h2,(room hm).2.2.same hs h1 h2⟩) (fun j hj=>ih j hj (hs.mono (rng j hj).1 (rng j hj).2.2.1))
theorem OwnI.wide {m:Bool} {lo hi lo' hi':Nat} {w:World} {l:List Pt} {v:Value} (h:OwnI w m lo hi l v) (a:lo'≤lo) (b:hi≤hi'):OwnI w m lo' hi' l v:=by
 cases h with
 | nil _ _ hm=>exact .nil lo' hi' hm
 | row _ _ _ g cap cur F L H h1 h2 blk hcap hsz hmax cells fits rng apart room deep =>
  exact .row lo' hi' l g cap cur F L H (by omega) (by omega) blk hcap hsz hmax cells fits (fun j hj=>by obtain⟨r1,r2,r3,r4⟩:=rng j hj;exact⟨by omega,r2,by omega,r4⟩) apart room deep
theorem OwnI.reads {m:Bool} {lo hi:Nat} {w:World} {l:List Pt} {v:Value} (h:OwnI w m lo hi l v):PI w lo hi l v:=by
 induction h with
 | nil lo hi hm=>exact PI.nil _ _ _
 | row lo hi l g cap cur F L H h1 h2 blk hcap hsz hmax cells fits rng apart room deep ih =>
  exact .mk l _ cap F hcap (fun j hj=>⟨g,0,rfl,h1,h2,by rw[Nat.zero_add];exact cells j hj⟩) fits (fun j hj=>(ih j hj).wide (rng j hj).1 (rng j hj).2.2.1)
def flat (ps:List (Pt×Value)):List Value:=ps.flatMap fun x=>(cellsOf x.1 x.2).toList
theorem flat_snoc (ps:List (Pt×Value)) (x:Pt×Value):flat (ps++[x])=flat ps++(cellsOf x.1 x.2).toList:=by simp[flat]
theorem flat_get (ps:List (Pt×Value)) (j c:Nat) (hc:c<6) (h:j<ps.length):(flat ps)[j*6+c]?=(cellsOf ps[j].1 ps[j].2)[c]?:=by
 induction ps generalizing j with
 | nil=>cases h
 | cons x r ih =>
  have e:flat (x::r)=(cellsOf x.1 x.2).toList++flat r:=by simp[flat]
  rw[e]
  cases j with
  | zero =>
   rw[Nat.zero_mul,Nat.zero_add,List.getElem?_append_left (by simpa[cellsOf] using hc)]
   simp
  | succ j =>
   rw[List.getElem?_append_right (by simp[cellsOf];omega)]
   have e2:(j+1)*6+c-(cellsOf x.1 x.2).toList.length=j*6+c:=by simp[cellsOf];omega
   rw[e2]
   exact ih j (by simpa using h)
theorem flat_cells {w:World} {base g cap n:Nat} {ps:List (Pt×Value)} (h:w.ownsRow base 57 6 (.slice (some ⟨g,0,none⟩) n cap) n (flat ps)) (j:Nat) (hj:j<ps.length):PartCells w g (j*6) ps[j].1 ps[j].2:=by
 have key:∀ c,c<6→w.cell? ⟨g,j*6+c,none⟩=(cellsOf ps[j].1 ps[j].2)[c]?:=fun c hc=>by
  have e:=flat_get ps j c hc hj
  have e3:(cellsOf ps[j].1 ps[j].2)[c]?=some ((cellsOf ps[j].1 ps[j].2)[c]'(by simpa[cellsOf] using hc)):=Array.getElem?_eq_getElem _
  rw[e3] at e ⊢
  have:=World.ownsRow.cells h (g:=g) rfl (j*6+c) _ e
  have e2:(⟨g,0,none⟩:Addr).add (j*6+c)=⟨g,j*6+c,none⟩:=by unfold Addr.add;split<;>simp_all
  rw[e2] at this
  exact this
 exact⟨key 0 (by decide),key 1 (by decide),key 2 (by decide),key 3 (by decide),key 4 (by decide),key 5 (by decide)⟩
inductive FitA:Pt→Prop
 | mk (p:Pt) (h:Fit p) (deep:∀ q∈p.items,FitA q):FitA p
def Kids (w:World) (base:Nat) (g:Option Nat) (ps:List (Pt×Value)):Prop :=
 ∃ L H:Nat→Nat,(∀ j (h:j<ps.length),OwnI w false (L j) (H j) ps[j].1.items ps[j].2∧base≤L j∧L j≤H j∧H j≤w.heap.size∧(∀ k,g=some k→¬ (L j≤k∧k<H j))∧Fit ps[j].1)∧∀ i j,i<j→j<ps.length→H i≤L j
theorem Kids.nil (w:World) (base:Nat) (g:Option Nat):Kids w base g []:=⟨fun _=>0,fun _=>0,(fun j h=>by cases h),(fun i j _ h=>by cases h)⟩
theorem Kids.below {w w':World} {base:Nat} {g:Option Nat} {ps:List (Pt×Value)} (h:Kids w base g ps) (hb:Below w.heap.size w w'):Kids w' base g ps:=by
 obtain⟨L,H,h1,h2⟩:=h
 refine⟨L,H,fun j hj=>?_,h2⟩
 obtain⟨a,b,c,d,e,f⟩:=h1 j hj
 exact⟨a.same (Same.of_below hb d),b,c,Nat.le_trans d hb.size,e,f⟩
theorem Kids.snoc {w w':World} {base g lo hi:Nat} {v:Value} {ps:List (Pt×Value)} {p:Pt} {u:Value} (hu:OwnI w false lo hi p.items u) (hf:Fit p) (h1:base≤lo) (h2:hi≤w.heap.size) (hlh:lo≤hi)
 (hv:∀ k,v.ownBlock=some k→k<lo) (hold:∃ w0:World,Kids w0 base v.ownBlock ps∧w0.heap.size≤lo∧Below w0.heap.size w0 w) (hg:w.grownBy w' v.ownBlock) (hw:v.ownBlock=some g∨w.heap.size≤g):Kids w' base (some g) (ps++[(p,u)]):=by
 obtain⟨w0,⟨L,H,k1,k2⟩,hw0,hb0⟩:=hold
 have same:∀ lo hi,hi≤w.heap.size→(∀ k,v.ownBlock=some k→¬ (lo≤k∧k<hi))→Same lo hi w w':=fun lo hi a b k c d=>hg.block k (by omega) (fun e=>b k e.symm ⟨c,d⟩)
 have out:∀ lo hi,hi≤w.heap.size→(∀ k,v.ownBlock=some k→¬ (lo≤k∧k<hi))→∀ k,some g=some k→¬ (lo≤k∧k<hi):=fun lo hi a b k e=>by
  have e:=Option.some.inj e
  subst e
  rcases hw with e | e
  · exact b _ e
  · omega
 refine⟨fun j=>if j<ps.length then L j else lo,fun j=>if j<ps.length then H j else hi,fun j hj=>?_,fun i j hij hj=>?_⟩
 · by_cases hjl:j<ps.length
   · obtain⟨a,b,c,d,e,f⟩:=k1 j hjl
     have hd:H j≤w.heap.size:=Nat.le_trans d hb0.size
     simp only [hjl,if_true]
     rw[List.getElem_append_left hjl]
     exact⟨(a.same (Same.of_below hb0 d)).same (same _ _ hd e),b,c,Nat.le_trans hd hg.size,out _ _ hd e,f⟩
   · have hje:j=ps.length:=by simp at hj;omega
     subst hje
     have hv2:∀ k,v.ownBlock=some k→¬ (lo≤k∧k<hi):=fun k hk=>by have:=hv k hk;omega
     simp only [Nat.lt_irrefl,if_false]
     rw[List.getElem_append_right lr]
     simp only [Nat.sub_self,List.getElem_cons_zero]
     exact⟨hu.same (same _ _ h2 hv2),h1,hlh,Nat.le_trans h2 hg.size,out _ _ h2 hv2,hf⟩
 · have hj2:j≤ps.length:=by simp at hj;omega
   have hi2:i<ps.length:=by omega
   by_cases hjl:j<ps.length
   · simp only [hi2,hjl,if_true]
     exact k2 i j hij hjl
   · simp only [hi2,if_true,hjl,if_false]
     have:=(k1 i hi2).2.2.2.1
     omega
theorem infoP:(prog.info? 57).map (fun i=>(i.zero,i.size,i.bytes))=some (some (.agg #[.int .u8 0,.bool false,.bool false,.string ⟨#[]⟩,.string ⟨#[]⟩,.slice none 0 0]),6,72):=by kernel_rfl
theorem OwnI.form {w:World} {m:Bool} {lo hi:Nat} {l:List Pt} {v:Value} (h:OwnI w m lo hi l v):∃ a cap,v=.slice a l.length cap:=by
 cases h with
 | nil _ _ _=>exact⟨none,0,rfl⟩
 | row _ _ _ g cap=>exact⟨_,cap,rfl⟩
theorem six_cells (w:World) (cs:Array Value) (T:TypeId) (hn:cs.size=6):∀ j u,cs.toList[j]?=some u→(w.alloc (.cells cs T)).cell? ((⟨w.heap.size,0,none⟩:Addr).add j)=some u:=by
 intro j u hj
 have e2:(⟨w.heap.size,0,none⟩:Addr).add j=⟨w.heap.size,j,none⟩:=by unfold Addr.add;split<;>simp_all
 rw[e2]
 have:=cell_of_row (w.alloc (.cells cs T)) w.heap.size j cs T (0,0) (heap_alloc_new w _)
 rw[this,← hj,Array.getElem?_toList]
theorem Same.setCell {lo hi b c:Nat} {w:World} {u:Value} (h:b<lo):Same lo hi w (w.setCell ⟨b,c,none⟩ u):=fun k h1 _=>Below.heap_setCell _ _ _ _ (by simp;omega)
theorem ba_nil {b:ByteArray} (h:b.toList.isEmpty=true):b=⟨#[]⟩:=ba_same (by rw[List.isEmpty_iff.1 h,Lib.toList_data])
theorem part_truth (y:Bool) (w:World):Calls prog 283 #[.agg #[.bool y]] w fun e w'=>e=.returned (.agg #[.int .u8 1,.bool y,.bool false,.string ⟨#[]⟩,.string ⟨#[]⟩,.slice none 0 0])∧Below w.heap.size w w':=by
 go_enter func283,ntmps283
 go_wp2_with fail
 exact bodyPost_ret (v:=.agg #[.int .u8 1,.bool y,.bool false,.string ⟨#[]⟩,.string ⟨#[]⟩,.slice none 0 0]) (by simp[results,Tryz.results283,go_sem]) rfl ⟨rfl,(zr.alloc lr _).alloc (by simp) _⟩
theorem canon {p:Pt} (h:mayB p=true):(p.kind≠1→p.yes=false)∧(p.kind≠2→p.neg=false∧p.mag=⟨#[]⟩)∧(p.kind≠7→p.items=[])∧(p.kind=0∨p.kind=1∨p.kind=2∨p.kind=7→p.raw=⟨#[]⟩):=by
 have h1:=mayB_ok h
 unfold okOne at h1
 simp only [Bool.and_eq_true] at h1
 obtain⟨⟨⟨⟨_,h2⟩,h3⟩,h4⟩,h5⟩:=h1
 refine⟨fun k=>?_,fun k=>?_,fun k=>?_,fun k=>?_⟩
 · simpa[k] using h2
 · have:p.neg=false∧p.mag.toList=[]:=by simpa[k] using h3
   exact⟨this.1,ba_nil (by rw[this.2];rfl)⟩
 · have:(p.kind==7)=false:=by simpa using k
   rw[this,Bool.false_or,List.isEmpty_iff] at h4
   exact h4
 · refine ba_nil ?_
   rcases k with k | k | k | k<;>simp[k] at h5 ⊢
   · exact h5
   · exact h5
   · exact h5.1
   · exact h5.1
theorem depth_any (p:Pt):∀ (v:Value) (w:World),mayB p=true→depthP p≤1000→VI w 0 w.heap.size p v →
 Calls prog 75 #[v] w fun e w'=>e=.returned (.int .i64 (depthP p))∧Below w.heap.size w w':=by
 induction p using Pt.ind with
 | h p ih =>
 intro v w hmay hdp hv
 have f1:=has_List_truth
 have f2:=has_List_whole
 have f3:=has_List_row
 have f4:=has_List_tuple
 have f5:=has_List_nil
 by_cases h7:p.kind=7
 · have hlen:=may_len hmay h7
   have hD:depthP p=depthL p.items+1:=by rw[depthP_eq,if_pos h7]
   have hdl:depthL p.items≤999:=by omega
   have HD:=zh hD
   obtain⟨a,cap,F,rfl,hcells,hdeep⟩:∃ (a:Option Addr) (cap:Nat) (F:Nat→Value),v=.iface 118 (.agg #[.slice a p.items.length cap])∧(∀ j,j<p.items.length→∃ g,a=some ⟨g,0,none⟩∧0≤g∧g<w.heap.size∧w.cell? ⟨g,j,none⟩=some (F j))∧∀ j (h:j<p.items.length),VI w 0 w.heap.size p.items[j] (F j):=by
    cases hv with
    | null _ h=>omega
    | truth _ h=>omega
    | whole _ h=>omega
    | row _ _ _ _ h=>omega
    | tuple _ _ a cap F hc cells deep=>exact⟨a,cap,F,rfl,cells,deep⟩
   have m1:∀ w:World,(method 512 118 (.agg #[.slice a p.items.length cap]) "Len").run prog w=.ok (279,.agg #[.slice a p.items.length cap]) w:=fun _=>by kernel_rfl
   have m2:∀ w:World,(method 512 118 (.agg #[.slice a p.items.length cap]) "At").run prog w=.ok (277,.agg #[.slice a p.items.length cap]) w:=fun _=>by kernel_rfl
   have HC:=zh hcells
   have HDp:=zh hdeep
   have IH:=zh ih
   have HM:=zh hmay
   clear hv hcells hdeep ih hmay h7 hD hdp
   go_enter func75,ntmps75
   go_wp2_with fail
   refine(len_tuple _ _ _ _).mono ?_
   rintro e w1 ⟨rfl,hb1⟩
   go_wp2_with fail
   go_loopw [5,16] (fun m i wr=>∃ k:Nat,k≤p.items.length∧i=.int .i64 k∧m=.int .i64 (depthL (p.items.take k))∧Below w.heap.size w wr) (fun _ i _=>p.items.length-(intOf i).toNat)
   case atStart=>exact⟨0,Nat.zero_le _,rfl,by rw[List.take_zero,depthL_nil];rfl,hb1⟩
   case round =>
    clear hb1
    obtain⟨k,hkl,rfl,rfl,hB⟩:=hrel
    have hdk:=depthL_take_le p.items k
    by_cases hlt:k<p.items.length
    · have q3:decide (k<p.items.length)=true:=by simpa using hlt
      obtain⟨g0,rfl,_,hg0,hcell⟩:=HC.out k hlt
      have HE:=zh (depthL_take hlt)
      have hmem:p.items[k]∈p.items:=List.getElem_mem _
      have hdq:=depthL_mem hmem
      have hvi:=zh (HDp.out k hlt)
      obtain⟨q,hq⟩:∃ q,p.items[k]=q:=⟨_,rfl⟩
      rw[hq] at HE hmem hdq hvi
      have hmq:=zh (mayB_item HM.out hmem)
      have hcell2:=zh (keep hB hg0 hcell)
      obtain⟨M,hM⟩:∃ M,depthL (p.items.take k)=M:=⟨_,rfl⟩
      rw[hM] at hdk HE ⊢
      clear hM hq hcell
      go_wp2_with fail
      refine(at_in g0 _ cap k (F k) _ (by omega) hlt hcell2.out).mono ?_
      rintro e w2 ⟨rfl,hb2⟩
      have hB2:=hB.trans (hb2.mono hB.size)
      go_wp2_with fail
      refine(IH.out q hmem (F k) _ hmq.out (by omega) (hvi.out.later hB2)).mono ?_
      rintro e w3 ⟨rfl,hb3⟩
      have hB3:=hB2.trans (hb3.mono hB2.size)
      clear hB hB2 hb2 hb3
      go_wp2_with fail
      refine⟨⟨k+1,by omega,rfl,?_,hB3⟩,by simp[intOf];omega⟩
      rw[HE.out]
      exact congrArg (Value.int .i64) (by first | omega | (split<;>omega))
    · have q3:decide (k<p.items.length)=false:=by simpa using hlt
      have HT:=zh (show p.items.take k=p.items from List.take_of_length_le (by omega))
      go_wp2_with fail
      go_ret
      exact⟨by rw[HD.out,HT.out];rfl,hB⟩
 · have HD:=zh (show depthP p=0 by rw[depthP_eq,if_neg h7])
   clear hmay hdp ih
   cases hv with
   | null _ h =>
    clear h h7
    go_enter func75,ntmps75
    go_wp2_with fail
    go_ret
    exact⟨by rw[HD.out];rfl,zr⟩
   | truth _ h =>
    clear h h7
    go_enter func75,ntmps75
    go_wp2_with fail
    go_ret
    exact⟨by rw[HD.out];rfl,zr⟩
   | whole _ h =>
    clear h h7
    go_enter func75,ntmps75
    go_wp2_with fail
    go_ret
    exact⟨by rw[HD.out];rfl,zr⟩
   | row _ h0 h1 h2 h =>
    clear h0 h1 h2 h h7
    go_enter func75,ntmps75
    go_wp2_with fail
    go_ret
    exact⟨by rw[HD.out];rfl,zr⟩
   | tuple _ h a cap F hc cells deep=>exact absurd h h7
theorem Depth_any (p:Pt) (v:Value) (w:World) (hmay:mayB p=true) (hdp:depthP p≤1000) (hv:VI w 0 w.heap.size p v) :
 Calls prog 43 #[v] w fun e w'=>e=.returned (.int .i64 (depthP p))∧Below w.heap.size w w':=by
 have HM:=zh hmay
 have HV:=zh hv
 clear hmay hv
 go_enter func43,ntmps43
 go_wp2_with fail
 refine(depth_any p v _ HM.out hdp HV.out).mono ?_
 rintro e w1 ⟨rfl,hb1⟩
 go_wp2_with fail
 go_ret
 exact⟨rfl,hb1⟩
def pT (l:List Pt):Pt:=.mk 7 false false ⟨#[]⟩ ⟨#[]⟩ l
def ofE (l:List Pt):Int:=if 1024<l.length then 2 else if deepB 16 (pT l) then 91 else 0
theorem ofE_three (l:List Pt):(1024<l.length∧ofE l=2)∨(¬ 1024<l.length∧deepB 16 (pT l)=true∧ofE l=91)∨(¬ 1024<l.length∧deepB 16 (pT l)=false∧ofE l=0):=by
 unfold ofE
 by_cases h:1024<l.length
 · exact .inl ⟨h,if_pos h⟩
 · rw[if_neg h]
   cases hd:deepB 16 (pT l) with
   | true=>exact .inr (.inl ⟨h,rfl,rfl⟩)
   | false=>exact .inr (.inr ⟨h,rfl,rfl⟩)
theorem deepT {l:List Pt}:deepB 16 (pT l)=true↔∃ q∈l,16≤depthP q:=by
 rw[deepB_iff,depthP_eq]
 show 16<(if (7:Nat)=7 then depthL l+1 else 0)↔_
 rw[if_pos rfl]
 constructor
 · intro h
   have h2:¬ ∀ q∈l,depthP q≤15:=fun h3=>by have:=(depthL_le l 15).2 h3;omega
   simp only [Classical.not_forall,Nat.not_le] at h2
   obtain⟨q,hq,hd⟩:=h2
   exact⟨q,hq,hd⟩
 · rintro ⟨q,hq,hd⟩
   have:=depthL_mem hq
   omega
theorem sameL_drop {l m:List Pt} {k:Nat} (hl:l.length=m.length) (h:k<l.length):sameL (l.drop k) (m.drop k)=(sameP l[k] (m[k]'(by omega))&&sameL (l.drop (k+1)) (m.drop (k+1))):=by
 rw[List.drop_eq_getElem_cons h,List.drop_eq_getElem_cons (show k<m.length by omega),sameL_cons]
end V
namespace topBytes
theorem closed:joinedFacts prog 3 Tryz.f3 Rows.topBytesSpec Rows.topBytesRow=true :=
 (and2 (and2 (and2 (and2 (and2 (and2 (and2 (and2 (and2 (and2 (and2 (and2 (and2 (and2 (and2 (and2 (and2 (and2 (and2 (and2 (and2 (and2 (and2 (and2 (and2 (and2 (and2 (and2 (and2 (and2 (and2 c0 c1) c2) c3) c4) c5) c6) c7) c8) c9) c10) c11) c12) c13) c14) c15) c16) c17) c18) c19) c20) c21) c22) c23) c24) c25) c26) c27) c28) c29) c30) c31)
theorem named:prog.funcNamed Rows.topBytesRow.func=some 3:=by kernel_rfl
theorem inst:Tryz.f3.isInstance prog Rows.topBytesRow.origin Rows.topBytesRow.targs:=of_decide_eq_true (by kernel_rfl)
