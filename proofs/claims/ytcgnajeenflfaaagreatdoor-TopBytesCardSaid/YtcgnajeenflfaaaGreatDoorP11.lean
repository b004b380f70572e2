import Derived.Test.YtcgnajeenflfaaaGreatDoorP10
set_option maxRecDepth 100000
set_option maxHeartbeats 4000000
set_option linter.all false
open Go.Proofs.Tryz Go.RowKit
namespace Go.Proofs.YtcgnajeenflfaaaGreatDoor
namespace V
theorem may_7 (p:Pt) (v:Value) (w:World) (hf:Fit p) (hp:PI w 0 w.heap.size p.items v) (hk:p.kind=7)
 (ih:∀ q∈p.items,∀ (v:Value) (w:World),Fit q→PI w 0 w.heap.size q.items v→Calls prog 55 #[.agg #[.int .u8 q.kind,.bool q.yes,.bool q.neg,.string q.mag,.string q.raw,v]] w fun e w'=>e=.returned (.bool (mayB q))∧Below w.heap.size w w') :
 Calls prog 55 #[.agg #[.int .u8 p.kind,.bool p.yes,.bool p.neg,.string p.mag,.string p.raw,v]] w fun e w'=>e=.returned (.bool (mayB p))∧Below w.heap.size w w':=by
 obtain⟨a,cap,rfl,_,hat⟩:=hp.open
 have HA:=zh hat
 have IH:=zh ih
 clear hp hat ih
 have hm:=hf.m
 have hr:=hf.r
 have hl:=hf.l
 obtain⟨y,hy⟩:∃ y,p.yes=y:=⟨_,rfl⟩
 obtain⟨z,hz⟩:∃ z,(!p.neg&&p.mag.toList.isEmpty)=z:=⟨_,rfl⟩
 obtain⟨t,ht⟩:∃ t,p.items.isEmpty=t:=⟨_,rfl⟩
 have hM:=may_kind hy hz ht (p.raw.toList.isEmpty&&decide (p.items.length≤1024)) (by simp[hk])
 have h24:=eql_num p.neg false p.mag ⟨#[]⟩ z (by rw[← hz];cases p.neg<;>simp)
 have h24n:=neq_num p.neg false p.mag ⟨#[]⟩ z (by rw[← hz];cases p.neg<;>simp)
 have e0:((p.kind:Int)==0)=false:=beq_eq_false_iff_ne.2 (by omega)
 have n0:((p.kind:Int) != 0)=true:=by rw[bne,e0];rfl
 have e1:((p.kind:Int)==1)=false:=beq_eq_false_iff_ne.2 (by omega)
 have n1:((p.kind:Int) != 1)=true:=by rw[bne,e1];rfl
 have e2:((p.kind:Int)==2)=false:=beq_eq_false_iff_ne.2 (by omega)
 have n2:((p.kind:Int) != 2)=true:=by rw[bne,e2];rfl
 have e3:((p.kind:Int)==3)=false:=beq_eq_false_iff_ne.2 (by omega)
 have n3:((p.kind:Int) != 3)=true:=by rw[bne,e3];rfl
 have e4:((p.kind:Int)==4)=false:=beq_eq_false_iff_ne.2 (by omega)
 have n4:((p.kind:Int) != 4)=true:=by rw[bne,e4];rfl
 have e5:((p.kind:Int)==5)=false:=beq_eq_false_iff_ne.2 (by omega)
 have n5:((p.kind:Int) != 5)=true:=by rw[bne,e5];rfl
 have e6:((p.kind:Int)==6)=false:=beq_eq_false_iff_ne.2 (by omega)
 have n6:((p.kind:Int) != 6)=true:=by rw[bne,e6];rfl
 have e7:((p.kind:Int)==7)=true:=beq_iff_eq.2 (by omega)
 have n7:((p.kind:Int) != 7)=false:=by rw[bne,e7];rfl
 have HM:=zh (show mayB p=(!y&&z&&(p.raw.toList.isEmpty&&decide (p.items.length≤1024))&&p.items.all mayB) by rw[hM];simp[hk])
 clear hM hz ht hk
 cases y with
 | true =>
  go_enter func55,ntmps55
  go_wp2_with fail
  go_ret
  exact⟨by rw[HM.out];rfl,zr.alloc lr _⟩
 | false =>
 rw[hy]
 clear hy
 cases z with
 | false =>
  go_enter func55,ntmps55
  go_wp2_with fail
  go_ret
  exact⟨by rw[HM.out];rfl,zr.alloc lr _⟩
 | true =>
 obtain⟨x,hx⟩:∃ x,p.raw.toList.isEmpty=x:=⟨_,rfl⟩
 rw[hx] at HM
 cases x with
 | false =>
  go_enter func55,ntmps55
  go_wp2_with fail
  go_ret
  exact⟨by rw[HM.out];rfl,zr.alloc lr _⟩
 | true =>
 have hlen:p.raw.size=0:=by rw[← size_of,List.isEmpty_iff.1 hx];rfl
 have hl64:decide (65536<(p.raw.size:Int))=false:=by simp;omega
 clear hlen
 by_cases hbig:1024<p.items.length
 · have hlx:decide (1024<(p.items.length:Int))=true:=by simp;omega
   have HM2:=zh (show mayB p=false by rw[HM.out];simp;omega)
   go_enter func55,ntmps55
   go_wp2_with fail
   go_ret
   exact⟨by rw[HM2.out];rfl,zr.alloc lr _⟩
 · have hlx:decide (1024<(p.items.length:Int))=false:=by simp;omega
   have HM2:=zh (show mayB p=(p.items.drop 0).all mayB by rw[HM.out,show decide (p.items.length≤1024)=true from decide_eq_true (by omega)];simp)
   clear HM
   go_enter func55,ntmps55
   go_wp2_with fail
   go_loopw [91] (fun i wr=>∃ k:Nat,k≤p.items.length∧i=.int .i64 k∧RowKit.Hid (mayB p=(p.items.drop k).all mayB)∧Below w.heap.size w wr∧w.heap.size<wr.heap.size∧wr.cell? ⟨w.heap.size,5,none⟩=some (.slice a p.items.length cap)) (fun i _=>p.items.length-(intOf i).toNat)
   case atStart=>exact⟨0,Nat.zero_le _,rfl,HM2,zr.alloc lr _,by simp,by simp⟩
   case round =>
    obtain⟨k,hkl,rfl,HK,hB,hsz,f5⟩:=hrel
    by_cases hlt:k<p.items.length
    · have q3:decide (k<p.items.length)=true:=by simpa using hlt
      obtain⟨b,off,u,rfl,_,hb,hc,hfit,hpi⟩:=HA.out k hlt
      obtain⟨d0,d1,d2,d3,d4,d5⟩:=hc.same (Same.of_below hB lr) (Nat.zero_le _) hb
      have HE:=zh (all_drop (f:=mayB) hlt)
      have hmem:p.items[k]∈p.items:=List.getElem_mem _
      obtain⟨q,hq⟩:∃ q,p.items[k]=q:=⟨_,rfl⟩
      rw[hq] at d0 d1 d2 d3 d4 hfit hpi HE hmem
      obtain⟨a2,cap2,rfl,_,_⟩:=hpi.open
      have hpi2:=zh hpi
      clear hc hq hpi
      go_wp2_with fail
      have hpw:PI (wr.alloc (.cells #[.int .u8 q.kind,.bool q.yes,.bool q.neg,.string q.mag,.string q.raw,.slice a2 q.items.length cap2] 57)) 0 (wr.alloc (.cells #[.int .u8 q.kind,.bool q.yes,.bool q.neg,.string q.mag,.string q.raw,.slice a2 q.items.length cap2] 57)).heap.size q.items (.slice a2 q.items.length cap2) :=
       hpi2.out.later (hB.alloc (Nat.le_of_lt hsz) _)
      refine(IH.out q hmem _ _ hfit hpw).mono ?_
      rintro e w1 ⟨rfl,hb1⟩
      have hB1:Below w.heap.size w w1:=(hB.alloc (Nat.le_of_lt hsz) _).trans (hb1.mono (by simp;omega))
      have hz1:w.heap.size<w1.heap.size:=by have:=hb1.size;simp at this;omega
      have HPC1:=zh (keep (hb1.mono (B':=wr.heap.size) (by simp)) hsz (keep ((Below.refl wr.heap.size wr).alloc lr (.cells #[.int .u8 q.kind,.bool q.yes,.bool q.neg,.string q.mag,.string q.raw,.slice a2 q.items.length cap2] 57)) hsz f5))
      clear hpw
      clear d0 d1 d2 d3 d4 d5 f5 hB hb1 hsz
      cases hd:mayB q with
      | true =>
       have HD2:=zh (show mayB p=(p.items.drop (k+1)).all mayB by rw[HK.out,HE.out,hd];rfl)
       clear hd
       go_wp2_with fail
       refine⟨?_,by simp[intOf];omega⟩
       first
        | exact⟨k+1,by omega,rfl,HD2,hB1,hz1,HPC1.out⟩
        | ((repeat apply Exists.intro);exact⟨⟨k+1,by omega,rfl,HD2,hB1,hz1,HPC1.out⟩,rfl⟩)
      | false =>
       have HD2:=zh (show mayB p=false by rw[HK.out,HE.out,hd];rfl)
       clear hd
       go_wp2_with fail
       go_ret
       exact⟨by rw[HD2.out];rfl,hB1⟩
    · have q3:decide (k<p.items.length)=false:=by simpa using hlt
      have HD2:=zh (show mayB p=true by rw[HK.out,List.drop_of_length_le (by omega)];rfl)
      go_wp2_with fail
      go_ret
      exact⟨by rw[HD2.out];rfl,hB⟩
theorem may_any (p:Pt):∀ (v:Value) (w:World),Fit p→PI w 0 w.heap.size p.items v →
 Calls prog 55 #[.agg #[.int .u8 p.kind,.bool p.yes,.bool p.neg,.string p.mag,.string p.raw,v]] w fun e w'=>e=.returned (.bool (mayB p))∧Below w.heap.size w w':=by
 induction p using Pt.ind with
 | h p ih =>
  intro v w hf hp
  rcases (show p.kind=0∨p.kind=1∨p.kind=2∨p.kind=3∨p.kind=4∨p.kind=5∨p.kind=6∨p.kind=7∨7<p.kind by omega) with h | h | h | h | h | h | h | h | h
  · exact may_0 p v w hf hp h
  · exact may_1 p v w hf hp h
  · exact may_2 p v w hf hp h
  · exact may_3 p v w hf hp h
  · exact may_4 p v w hf hp h
  · exact may_5 p v w hf hp h
  · exact may_6 p v w hf hp h
  · exact may_7 p v w hf hp h ih
  · exact may_8 p v w hf hp h
