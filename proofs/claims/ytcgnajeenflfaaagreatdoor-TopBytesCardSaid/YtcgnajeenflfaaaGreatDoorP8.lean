import Derived.Test.YtcgnajeenflfaaaGreatDoorP3
import Derived.Test.YtcgnajeenflfaaaGreatDoorP7
set_option maxRecDepth 100000
set_option maxHeartbeats 4000000
set_option linter.all false
open Go.Proofs.Tryz Go.RowKit
namespace Go.Proofs.YtcgnajeenflfaaaGreatDoor
namespace So
open D (isI64)
theorem Fine.insIn {l:List Int} (h:Fine l) (c:Int→Int) (a j:Nat):Fine (So.insIn c a j l):=by
 induction j generalizing l with
 | zero=>exact h
 | succ j ih =>
  unfold So.insIn
  split
  · exact ih (h.sw _ _)
  · exact h
theorem Fine.insOut {l:List Int} (h:Fine l) (c:Int→Int) (a k i:Nat):Fine (So.insOut c a k i l):=by
 induction k generalizing i l with
 | zero=>exact h
 | succ k ih=>exact ih (h.insIn _ _ _) _
theorem Fine.insSort {l:List Int} (h:Fine l) (c:Int→Int) (a b:Nat):Fine (So.insSort c l a b):=h.insOut _ _ _ _
theorem insertion_n (c:Int→Int) (g off bx cap n a b:Nat) (x y:Int) (hx:(a:Int)=x) (hy:(b:Int)=y) (pre post:List Value) (l:List Int) (w:World) (hn:l.length=n) (hr:InRow w g off pre post l) (hf:Fine l) (hab:a≤b) (hb:b≤n) (hlen:n≤4194304) (hc:CmpAt w g bx c) :
 Calls prog 250 #[.slice (some ⟨g,off,none⟩) n cap,.int .i64 x,.int .i64 y,.func (.func 244) #[] #[.pointer (some ⟨bx,0,none⟩)]] w fun e w' =>
  e=.returned (.tuple #[])∧InRow w' g off pre post (insSort c l a b)∧Oth g w w':=by
 subst hx hy hn
 exact insertion_any c g off bx cap a b pre post l w hr hf hab hb hlen hc
theorem blocks_go {c:Int→Int} {n f a:Nat} {l:List Int} (h:a+20≤n):blocks c n (f+1) a l=blocks c n f (a+20) (insSort c l a (a+20)):=by rw[blocks,if_pos h]
theorem blocks_end {c:Int→Int} {n f a:Nat} {l:List Int} (h:¬ a+20≤n):blocks c n (f+1) a l=insSort c l a n:=by rw[blocks,if_neg h]
theorem mergeR_go {c:Int→Int} {s n f a:Nat} {l:List Int} (h:a+2*s≤n):mergeR c s n (f+1) a l=mergeR c s n f (a+2*s) (symM c n a (a+s) (a+2*s) l):=by rw[mergeR,if_pos h]
theorem mergeR_yes {c:Int→Int} {s n f a:Nat} {l:List Int} (h:¬ a+2*s≤n) (hf:n≤a+f) (h2:a+s<n):mergeR c s n f a l=symM c n a (a+s) n l:=by
 obtain⟨f,rfl⟩:∃ k,f=k+1:=⟨f-1,by omega⟩
 rw[mergeR,if_neg h,if_pos h2]
theorem mergeR_no {c:Int→Int} {s n f a:Nat} {l:List Int} (h:¬ a+2*s≤n) (h2:¬ a+s<n):mergeR c s n f a l=l:=by
 cases f with
 | zero=>rfl
 | succ f=>rw[mergeR,if_neg h,if_neg h2]
theorem mergeAll_go {c:Int→Int} {n f s:Nat} {l:List Int} (h:s<n):mergeAll c n (f+1) s l=mergeAll c n f (2*s) (mergeR c s n n 0 l):=by rw[mergeAll,if_pos h]
theorem mergeAll_end {c:Int→Int} {n f s:Nat} {l:List Int} (h:¬ s<n):mergeAll c n f s l=l:=by
 cases f with
 | zero=>rfl
 | succ f=>rw[mergeAll,if_neg h]
theorem blocks_length (c:Int→Int) (n f a:Nat) (l:List Int):(blocks c n f a l).length=l.length:=by
 induction f generalizing a l with
 | zero=>rfl
 | succ f ih =>
  unfold blocks
  split
  · rw[ih,insSort_length]
  · rw[insSort_length]
theorem Fine.blocks {l:List Int} (h:Fine l) (c:Int→Int) (n f a:Nat):Fine (So.blocks c n f a l):=by
 induction f generalizing a l with
 | zero=>exact h
 | succ f ih =>
  unfold So.blocks
  split
  · exact ih (h.insSort _ _ _) _
  · exact h.insSort _ _ _
theorem mergeR_length (c:Int→Int) (s n f a:Nat) (l:List Int):(mergeR c s n f a l).length=l.length:=by
 induction f generalizing a l with
 | zero=>rfl
 | succ f ih =>
  unfold mergeR
  split
  · rw[ih,symM_length]
  · split
    · rw[symM_length]
    · rfl
theorem Fine.mergeR {l:List Int} (h:Fine l) (c:Int→Int) (s n f a:Nat):Fine (So.mergeR c s n f a l):=by
 induction f generalizing a l with
 | zero=>exact h
 | succ f ih =>
  unfold So.mergeR
  split
  · exact ih (h.symM _ _ _ _ _) _
  · split
    · exact h.symM _ _ _ _ _
    · exact h
theorem mergeAll_length (c:Int→Int) (n f s:Nat) (l:List Int):(mergeAll c n f s l).length=l.length:=by
 induction f generalizing s l with
 | zero=>rfl
 | succ f ih =>
  unfold mergeAll
  split
  · rw[ih,mergeR_length]
  · rfl
theorem Fine.mergeAll {l:List Int} (h:Fine l) (c:Int→Int) (n f s:Nat):Fine (So.mergeAll c n f s l):=by
 induction f generalizing s l with
 | zero=>exact h
 | succ f ih =>
  unfold So.mergeAll
  split
  · exact ih (h.mergeR _ _ _ _ _) _
  · exact h
theorem stable_length (c:Int→Int) (l:List Int):(stable c l).length=l.length:=by unfold stable;rw[mergeAll_length,blocks_length]
theorem Fine.stable {l:List Int} (h:Fine l) (c:Int→Int):Fine (So.stable c l):=(h.blocks _ _ _ _).mergeAll _ _ _ _
theorem stable_any (c:Int→Int) (g off bx cap n:Nat) (pre post:List Value) (l:List Int) (w:World) (hn:l.length=n) (hr:InRow w g off pre post l) (hf:Fine l) (hlen:n≤4194304) (hc:CmpAt w g bx c) :
 Calls prog 249 #[.slice (some ⟨g,off,none⟩) n cap,.int .i64 (n:Int),.func (.func 244) #[] #[.pointer (some ⟨bx,0,none⟩)]] w fun e w' =>
  e=.returned (.tuple #[])∧InRow w' g off pre post (stable c l)∧Oth g w w':=by
 have HC:=zh hc
 obtain⟨L0,hL0⟩:∃ L0,blocks c n (n+1) 0 l=L0:=⟨_,rfl⟩
 have HL0:=zh hL0
 have H0:=zh (show L0.length=n∧Fine L0 from⟨by rw[← hL0,blocks_length];exact hn,by rw[← hL0];exact hf.blocks _ _ _ _⟩)
 obtain⟨Z,hZ⟩:∃ Z,stable c l=Z:=⟨_,rfl⟩
 have HZ:=zh (show mergeAll c n (n+1) 20 L0=Z by rw[← hZ,← hL0,← hn];rfl)
 rw[hZ]
 have HN:=zh hn
 have HF:=zh hf
 clear hc hL0 hZ hn hf
 go_enter func249,ntmps249
 go_wp2_with fail
 go_loopw [7,8] (fun va vb wr=>∃ (a f:Nat) (L:List Int),va=.int .i64 (a:Int)∧vb=.int .i64 ((a+20:Nat):Int)∧a≤n∧n+1≤a+f∧InRow wr g off pre post L∧Oth g w wr∧RowKit.Hid (L.length=n∧Fine L)∧RowKit.Hid (blocks c n f a L=L0)) (fun va _ _=>n-(intOf va).toNat)
 case atStart=>exact⟨0,n+1,l,rfl,rfl,by omega,by omega,hr,Oth.refl _ _,zh ⟨HN.out,HF.out⟩,HL0⟩
 case round =>
  obtain⟨a,f,L,rfl,rfl,ha,hf,hrow,ho,HL,HO⟩:=hrel
  obtain⟨f,rfl⟩:∃ k,f=k+1:=⟨f-1,by omega⟩
  obtain⟨b,hb⟩:∃ b,a+20=b:=⟨_,rfl⟩
  rw[hb]
  by_cases hlt:b≤n
  · have q1:decide ((b:Int)≤(n:Int))=true:=by simp;omega
    rw[blocks_go (by omega),hb] at HO
    have hab:a≤b:=by omega
    have hb1:b=a+20:=by omega
    have HB:=zh hb1
    clear hb hb1
    go_wp2_with fail
    refine(insertion_n c g off bx cap n a b _ _ rfl rfl pre post L wr HL.out.1 hrow HL.out.2 hab hlt hlen (HC.out.oth ho)).mono ?_
    rintro e w1 ⟨rfl,hr1,ho1⟩
    have hO1:=ho.trans ho1
    have HL1:=zh (show (insSort c L a b).length=n∧Fine (insSort c L a b) from⟨by rw[insSort_length];exact HL.out.1,HL.out.2.insSort _ _ _⟩)
    clear hrow ho ho1
    go_wp2_with fail
    have hb1:=HB.out
    exact⟨⟨b,f,insSort c L a b,rfl,by simp,by omega,by omega,hr1,hO1,HL1,HO⟩,by simp[intOf];omega⟩
  · have q1:decide ((b:Int)≤(n:Int))=false:=by simp;omega
    rw[blocks_end (by omega)] at HO
    have HB:=zh hb
    clear hb
    go_wp2_with fail
    refine(insertion_n c g off bx cap n a n _ _ rfl rfl pre post L wr HL.out.1 hrow HL.out.2 ha lr hlen (HC.out.oth ho)).mono ?_
    rintro e w1 ⟨rfl,hr1,ho1⟩
    rw[HO.out] at hr1
    have hO1:=ho.trans ho1
    clear hrow ho ho1
    go_wp2_with fail
    go_loopw [6] (fun vs wr=>∃ (s f:Nat) (L:List Int),vs=.int .i64 (s:Int)∧1≤s∧s≤2*n+20∧n≤s+f∧InRow wr g off pre post L∧Oth g w wr∧RowKit.Hid (L.length=n∧Fine L)∧RowKit.Hid (mergeAll c n f s L=Z)) (fun vs _=>n-(intOf vs).toNat)
    case atStart=>exact⟨20,n+1,L0,rfl,by omega,by omega,by omega,hr1,hO1,H0,HZ⟩
    case round =>
     clear hr1 hO1 HL HO
     obtain⟨s,f,L,rfl,hs1,hs2,hf,hrow,ho,HL,HO⟩:=hrel
     by_cases hlt2:s<n
     · obtain⟨f,rfl⟩:∃ k,f=k+1:=⟨f-1,by omega⟩
       have q2:decide ((s:Int)<(n:Int))=true:=by simp;omega
       rw[mergeAll_go hlt2] at HO
       obtain⟨L1,hL1⟩:∃ L1,mergeR c s n n 0 L=L1:=⟨_,rfl⟩
       rw[hL1] at HO
       have HL1:=zh hL1
       have HG:=zh (show L1.length=n∧Fine L1 from⟨by rw[← hL1,mergeR_length];exact HL.out.1,by rw[← hL1];exact HL.out.2.mergeR _ _ _ _ _⟩)
       clear hL1
       go_wp2_with fail
       go_loopw [7,8] (fun va vb wr=>∃ (a f:Nat) (M:List Int),va=.int .i64 (a:Int)∧vb=.int .i64 ((a+2*s:Nat):Int)∧a≤n∧n≤a+f∧InRow wr g off pre post M∧Oth g w wr∧RowKit.Hid (M.length=n∧Fine M)∧RowKit.Hid (mergeR c s n f a M=L1)) (fun va _ _=>n-(intOf va).toNat)
       case atStart=>exact⟨0,n,L,rfl,by simp,by omega,by omega,hrow,ho,HL,HL1⟩
       case round =>
        clear hrow ho HL HL1
        obtain⟨a,fa,M,rfl,rfl,ha,hfa,hrow,ho,HM,HR⟩:=hrel
        by_cases hlt3:a+2*s≤n
        · obtain⟨fa,rfl⟩:∃ k,fa=k+1:=⟨fa-1,by omega⟩
          have q3:decide (((a+2*s:Nat):Int)≤(n:Int))=true:=by simp;omega
          have q3':decide ((a:Int)+2*(s:Int)≤(n:Int))=true:=by simp;omega
          rw[mergeR_go hlt3] at HR
          go_wp2_with fail
          refine(merge_f c g off bx cap n pre post hlen n a (a+s) (a+2*s) _ _ _ M wr rfl (by omega) (by omega) HM.out.1 hrow HM.out.2 (by omega) (by omega) hlt3 (by omega) (HC.out.oth ho)).mono ?_
          rintro e w2 ⟨rfl,hr2,ho2⟩
          have hO2:=ho.trans ho2
          have HM1:=zh (show (symM c n a (a+s) (a+2*s) M).length=n∧Fine (symM c n a (a+s) (a+2*s) M) from⟨by rw[symM_length];exact HM.out.1,HM.out.2.symM _ _ _ _ _⟩)
          clear hrow ho ho2
          go_wp2_with fail
          refine⟨⟨a+2*s,fa,_,by simp,?_,hlt3,by omega,hr2,hO2,HM1,HR⟩,by simp[intOf];omega⟩
          simp
        · have q3:decide (((a+2*s:Nat):Int)≤(n:Int))=false:=by simp;omega
          have q3':decide ((a:Int)+2*(s:Int)≤(n:Int))=false:=by simp;omega
          by_cases hlt4:a+s<n
          · have q4:decide ((a:Int)+(s:Int)<(n:Int))=true:=by simp;omega
            rw[mergeR_yes hlt3 hfa hlt4] at HR
            go_wp2_with fail
            refine(merge_f c g off bx cap n pre post hlen n a (a+s) n _ _ _ M wr rfl (by omega) rfl HM.out.1 hrow HM.out.2 (by omega) hlt4 lr (by omega) (HC.out.oth ho)).mono ?_
            rintro e w2 ⟨rfl,hr2,ho2⟩
            rw[HR.out] at hr2
            have hO2:=ho.trans ho2
            clear hrow ho ho2
            go_wp2_with fail
            refine⟨⟨2*s,f,L1,?_,by omega,by omega,by omega,hr2,hO2,HG,HO⟩,by simp[intOf];omega⟩
            simp;omega
          · have q4:decide ((a:Int)+(s:Int)<(n:Int))=false:=by simp;omega
            rw[mergeR_no hlt3 hlt4] at HR
            have hM:M=L1:=HR.out
            subst hM
            go_wp2_with fail
            refine⟨⟨2*s,f,M,?_,by omega,by omega,by omega,hrow,ho,HG,HO⟩,by simp[intOf];omega⟩
            simp;omega
     · have q2:decide ((s:Int)<(n:Int))=false:=by simp;omega
       rw[mergeAll_end hlt2] at HO
       have hM:L=Z:=HO.out
       subst hM
       go_wp2_with fail
       go_end0
       exact⟨rfl,hrow,ho⟩
theorem SortStable_any (c:Int→Int) (g off bx cap n:Nat) (pre post:List Value) (l:List Int) (w:World) (hn:l.length=n) (hr:InRow w g off pre post l) (hf:Fine l) (hlen:n≤4194304) (hc:CmpAt w g bx c) :
 Calls prog 246 #[.slice (some ⟨g,off,none⟩) n cap,.func (.func 244) #[] #[.pointer (some ⟨bx,0,none⟩)]] w fun e w' =>
  e=.returned (.tuple #[])∧InRow w' g off pre post (stable c l)∧Oth g w w':=by
 have HC:=zh hc
 have HN:=zh hn
 have HF:=zh hf
 clear hc hn hf
 go_enter func246,ntmps246
 go_wp2_with fail
 refine(stable_any c g off bx cap n pre post l w HN.out hr HF.out hlen HC.out).mono ?_
 rintro e w1 ⟨rfl,hr1,ho1⟩
 go_wp2_with fail
 go_end0
 exact⟨rfl,hr1,ho1⟩
end So
section
open D (isI64)
theorem InRow.sub {w:World} {g:Nat} {post:List Value} {M:List Int} {a b:Nat} (h:InRow w g 0 [] post M) (hab:a≤b) (hb:b≤M.length) :
 InRow w g a (nv (M.take a)) (nv (M.drop b)++post) ((M.drop a).take (b-a)):=by
 obtain⟨_,cur,h2,h3⟩:=h
 refine⟨by rw[nv_length,List.length_take];omega,cur,h2,?_⟩
 rw[h3,List.nil_append,← List.append_assoc,nv_append,nv_append]
 congr 2
 have e:(M.drop a).take (b-a)++M.drop b=M.drop a:=by
  have:=List.take_append_drop (b-a) (M.drop a)
  rwa [List.drop_drop,show a+(b-a)=b by omega] at this
 rw[List.append_assoc,e,List.take_append_drop]
theorem InRow.join {w:World} {g a:Nat} {post:List Value} {L M N:List Int} (h:InRow w g a (nv L) (nv N++post) M):InRow w g 0 [] post (L++M++N):=by
 obtain⟨_,cur,h2,h3⟩:=h
 refine⟨rfl,cur,h2,?_⟩
 rw[h3,List.nil_append,← List.append_assoc,nv_append,nv_append]
theorem OwnN.row {w:World} {base:Nat} {v:Value} {l:List Int} (h:OwnN w base v l):(v=.slice none 0 0∧l=[]) ∨
 ∃ g cap post,v=.slice (some ⟨g,0,none⟩) l.length cap∧base≤g∧l.length≤cap∧cap≤maxLen∧l.length+post.length=cap∧InRow w g 0 [] post l:=by
 rcases h.2 with ⟨rfl,hn⟩ | ⟨g,cap,cur,rfl,hg,hgg,h1,h2,h3,h4⟩
 · exact .inl ⟨rfl,List.eq_nil_of_length_eq_zero hn⟩
 · refine .inr ⟨g,cap,cur.toList.drop l.length,rfl,hg,h1,h2,?_,rfl,cur,hgg,?_⟩
   · have e:cur.toList.length=cur.size:=Array.length_toList
     rw[List.length_drop];omega
   · have:=List.take_append_drop l.length cur.toList
     rw[Nat.mul_one] at h4
     rw[h4] at this
     exact this.symm
theorem InRow.own {w:World} {base g cap:Nat} {post:List Value} {l:List Int} (h:InRow w g 0 [] post l) (hg:base≤g) (h1:l.length≤cap) (h2:cap≤maxLen) (h3:l.length+post.length=cap) :
 OwnN w base (.slice (some ⟨g,0,none⟩) l.length cap) l:=by
 obtain⟨_,cur,h4,h5⟩:=h
 rw[List.nil_append] at h5
 refine⟨by rw[nv_length,Nat.mul_one],.inr ⟨g,cap,cur,rfl,hg,h4,h1,h2,?_,?_⟩⟩
 · rw[← Array.length_toList,h5,List.length_append,nv_length];omega
 · rw[h5,Nat.mul_one,List.take_append_of_le_length (by rw[nv_length];omega),List.take_of_length_le (by rw[nv_length];omega)]
namespace So
def runTo (c:Int→Int) (l:List Int):Nat→Nat→Nat
 | 0,i=>i
 | f+1,i=>if i<l.length∧c (l.getD i 0)≠0 then runTo c l f (i+1) else i
def runs (c:Int→Int):Nat→Nat→List Int→List Int
 | 0,_,l=>l
 | f+1,i,l=>if i<l.length then runs c f (runTo c l l.length i+1) (l.take i++stable c ((l.drop i).take (runTo c l l.length i-i))++l.drop (runTo c l l.length i)) else l
theorem runTo_in (c:Int→Int) (l:List Int) (f i:Nat) (h:i≤l.length):i≤runTo c l f i∧runTo c l f i≤l.length:=by
 induction f generalizing i with
 | zero=>exact⟨Nat.le_refl _,h⟩
 | succ f ih =>
  unfold runTo
  split
  · rename_i h2
    have:=ih (i+1) (by omega)
    omega
  · omega
theorem runTo_go {c:Int→Int} {l:List Int} {f i:Nat} (h:i<l.length) (hc:c l[i]≠0):runTo c l (f+1) i=runTo c l f (i+1):=by rw[runTo,if_pos ⟨h,by rw[getD_at h];exact hc⟩]
theorem runTo_stop {c:Int→Int} {l:List Int} {f i:Nat} (h:i<l.length) (hc:¬ c l[i]≠0):runTo c l f i=i:=by
 cases f with
 | zero=>rfl
 | succ f=>rw[runTo,if_neg (fun e=>hc (by have:=e.2;rwa [getD_at h] at this))]
theorem runTo_end {c:Int→Int} {l:List Int} {f i:Nat} (h:¬ i<l.length):runTo c l f i=i:=by
 cases f with
 | zero=>rfl
 | succ f=>rw[runTo,if_neg (fun e=>h e.1)]
theorem runs_go {c:Int→Int} {l:List Int} {f i t:Nat} (h:i<l.length) (ht:runTo c l l.length i=t):runs c (f+1) i l=runs c f (t+1) (l.take i++stable c ((l.drop i).take (t-i))++l.drop t):=by rw[runs,if_pos h,ht]
theorem runs_end {c:Int→Int} {l:List Int} {f i:Nat} (h:¬ i<l.length):runs c f i l=l:=by
 cases f with
 | zero=>rfl
 | succ f=>rw[runs,if_neg h]
theorem Fine.app {l m:List Int} (h:Fine l) (k:Fine m):Fine (l++m):=fun x hx=>by
 rcases List.mem_append.1 hx with h1 | h1
 · exact h x h1
 · exact k x h1
theorem Fine.tk {l:List Int} (h:Fine l) (n:Nat):Fine (l.take n):=fun x hx=>h x (List.mem_of_mem_take hx)
theorem Fine.dp {l:List Int} (h:Fine l) (n:Nat):Fine (l.drop n):=fun x hx=>h x (List.mem_of_mem_drop hx)
theorem runs_step {c:Int→Int} {l:List Int} {i t:Nat} (hit:i≤t) (ht:t≤l.length) (hf:Fine l) :
 (l.take i++stable c ((l.drop i).take (t-i))++l.drop t).length=l.length∧Fine (l.take i++stable c ((l.drop i).take (t-i))++l.drop t):=by
 refine⟨?_,((hf.tk _).app (((hf.dp _).tk _).stable _)).app (hf.dp _)⟩
 rw[List.length_append,List.length_append,stable_length,List.length_take,List.length_take,List.length_drop,List.length_drop]
 omega
theorem runs_ok (c:Int→Int) (f i:Nat) (l:List Int) (hf:Fine l):(runs c f i l).length=l.length∧Fine (runs c f i l):=by
 induction f generalizing i l with
 | zero=>exact⟨rfl,hf⟩
 | succ f ih =>
  unfold runs
  split
  · rename_i h
    have h1:=runTo_in c l l.length i (by omega)
    have h2:=runs_step (c:=c) h1.1 h1.2 hf
    have h3:=ih (runTo c l l.length i+1) _ h2.2
    exact⟨h3.1.trans h2.1,h3.2⟩
  · exact⟨rfl,hf⟩
end So
namespace D
def formM (D:Dm) (l:List Int):List Int:=So.runs (classM D) (l.flatMap (partsM D)).length 0 (l.flatMap (partsM D))
theorem flat_le (D:Dm) (wf:Wf D) (l:List Int):(l.flatMap (partsM D)).length≤l.length*54:=flat_len l _ 54 fun q _=>partsM_len wf q
theorem partsF_fine {D:Dm} (wf:Wf D) (f:Nat) (x:Int) (hx:isI64 x):So.Fine (partsF D f x):=by
 induction f generalizing x with
 | zero=>intro y hy;simp only [partsF,List.mem_singleton] at hy;exact hy▸hx
 | succ f ih =>
  unfold partsF
  cases hs:sylB x with
  | true =>
   simp only [if_true]
   intro y hy
   obtain⟨q,hq,h2⟩:=List.mem_flatMap.1 hy
   have h3:=sylL_in hs hq
   exact ih q (by unfold isI64;omega) y h2
  | false =>
   simp only [Bool.false_eq_true,if_false]
   by_cases hp:partsOf D x=[]
   · simp only [hp,List.isEmpty_nil,if_true]
     intro y hy;simp only [List.mem_singleton] at hy;exact hy▸hx
   · rw[if_neg (by simpa using hp)]
     obtain⟨c,hc⟩:=parts_mem hp
     intro y hy
     obtain⟨q,hq,h2⟩:=List.mem_flatMap.1 hy
     have h3:=(wf.plain x c _ hc).2 q hq
     exact ih q (by unfold isI64;omega) y h2
theorem flat_fine {D:Dm} (wf:Wf D) {l:List Int} (hl:So.Fine l):So.Fine (l.flatMap (partsM D)):=fun y hy=>by
 obtain⟨q,hq,h2⟩:=List.mem_flatMap.1 hy
 exact partsF_fine wf 5000 q (hl q hq) y h2
theorem formM_ok {D:Dm} (wf:Wf D) {l:List Int} (hl:So.Fine l):(formM D l).length≤l.length*54∧So.Fine (formM D l):=by
 have h1:=flat_le D wf l
 have h2:=So.runs_ok (classM D) (l.flatMap (partsM D)).length 0 _ (flat_fine wf hl)
 exact⟨by unfold formM;rw[h2.1];exact h1,h2.2⟩
end D
end
namespace Ma
open Ta (Tm El findM impM)
open So (Fine)
def furM (c:Int→Int) (T:Tm):List Int→List Int→List Int→Int→List Int×List Int
 | [],row,stay,_=>(row,stay)
 | p::r,row,stay,hi=>if c p=0 then (row,stay++p::r) else if hi<c p∧(findM T (row++[p])).isSome=true then furM c T r (row++[p]) stay hi else furM c T r row (stay++[p]) (max hi (c p))
theorem furM_nil (c:Int→Int) (T:Tm) (row stay:List Int) (hi:Int):furM c T [] row stay hi=(row,stay):=rfl
theorem furM_stop {c:Int→Int} {T:Tm} {p:Int} {r row stay:List Int} {hi:Int} (h:c p=0):furM c T (p::r) row stay hi=(row,stay++p::r):=by rw[furM,if_pos h]
theorem furM_take {c:Int→Int} {T:Tm} {p:Int} {r row stay:List Int} {hi:Int} (h:¬ c p=0) (h1:hi<c p) (h2:(findM T (row++[p])).isSome=true):furM c T (p::r) row stay hi=furM c T r (row++[p]) stay hi:=by rw[furM,if_neg h,if_pos ⟨h1,h2⟩]
theorem furM_stay {c:Int→Int} {T:Tm} {p:Int} {r row stay:List Int} {hi:Int} (h:¬ c p=0) (h1:¬ (hi<c p∧(findM T (row++[p])).isSome=true)):furM c T (p::r) row stay hi=furM c T r row (stay++[p]) (max hi (c p)):=by rw[furM,if_neg h,if_neg h1]
theorem findM_short {T:Tm} {l:List Int} (h:(findM T l).isSome=true):l.length≤8:=by
 unfold findM at h
 split at h
 · assumption
 · cases h
theorem furM_ok {c:Int→Int} {T:Tm} (l row stay:List Int) (hi:Int) (hl:Fine l) (hr:Fine row) (hs:Fine stay) :
 Fine (furM c T l row stay hi).1∧Fine (furM c T l row stay hi).2∧(furM c T l row stay hi).2.length≤stay.length+l.length∧((furM c T l row stay hi).1=row∨(furM c T l row stay hi).1.length≤8):=by
 induction l generalizing row stay hi with
 | nil=>exact⟨hr,hs,by simp[furM],.inl rfl⟩
 | cons p r ih =>
  have hp:D.isI64 p:=hl p (List.mem_cons_self ..)
  have h1:Fine [p]:=fun x hx=>by rw[List.mem_singleton.1 hx];exact hp
  have hr2:Fine r:=fun x hx=>hl x (List.mem_cons_of_mem _ hx)
  by_cases h:c p=0
  · rw[furM_stop h]
    exact⟨hr,hs.app hl,by simp,.inl rfl⟩
  by_cases h2:hi<c p∧(findM T (row++[p])).isSome=true
  · rw[furM_take h h2.1 h2.2]
    obtain⟨a,b,d,e⟩:=ih (row++[p]) stay hi hr2 (hr.app h1) hs
    refine⟨a,b,by simp only [List.length_cons];omega,.inr ?_⟩
    rcases e with e | e
    · rw[e];exact findM_short h2.2
    · exact e
  · rw[furM_stay h h2]
    obtain⟨a,b,d,e⟩:=ih row (stay++[p]) (max hi (c p)) hr2 hr (hs.app h1)
    exact⟨a,b,by simp only [List.length_cons,List.length_append,List.length_nil] at d ⊢;omega,e⟩
def tryN (T:Tm) (l:List Int):Nat→Nat
 | 0=>0
 | n+1=>if (findM T (l.take (n+1))).isSome then n+1 else tryN T l n
theorem tryN_yes {T:Tm} {l:List Int} {n:Nat} (h:(findM T (l.take (n+1))).isSome=true):tryN T l (n+1)=n+1:=by rw[tryN,if_pos h]
theorem tryN_no {T:Tm} {l:List Int} {n:Nat} (h:(findM T (l.take (n+1))).isSome=false):tryN T l (n+1)=tryN T l n:=by rw[tryN,h];rfl
theorem tryN_le (T:Tm) (l:List Int) (n:Nat):tryN T l n≤n:=by
 induction n with
 | zero=>exact Nat.le_refl _
 | succ n ih =>
  unfold tryN
  split
  · exact Nat.le_refl _
  · omega
def firstN (T:Tm) (l:List Int):Nat:=min (T.long (l.getD 0 0)).toNat l.length
def stepsM (c:Int→Int) (T:Tm):Nat→List Int→List (List Int)
 | 0,_=>[]
 | f+1,l=>if l.length=0 then [] else if tryN T l (firstN T l)=0 then [l.getD 0 0]::stepsM c T f (l.drop 1)
  else (furM c T (l.drop (tryN T l (firstN T l))) (l.take (tryN T l (firstN T l))) [] 0).1::stepsM c T f (furM c T (l.drop (tryN T l (firstN T l))) (l.take (tryN T l (firstN T l))) [] 0).2
theorem stepsM_nil {c:Int→Int} {T:Tm} {f:Nat} {l:List Int} (h:l.length=0):stepsM c T f l=[]:=by
 cases f with
 | zero=>rfl
 | succ f=>rw[stepsM,if_pos h]
theorem stepsM_one {c:Int→Int} {T:Tm} {f:Nat} {l:List Int} (h:l.length≠0) (h2:tryN T l (firstN T l)=0):stepsM c T (f+1) l=[l.getD 0 0]::stepsM c T f (l.drop 1):=by rw[stepsM,if_neg h,if_pos h2]
theorem stepsM_row {c:Int→Int} {T:Tm} {f n:Nat} {l row left:List Int} (h:l.length≠0) (hn:tryN T l (firstN T l)=n) (h2:n≠0) (hf:furM c T (l.drop n) (l.take n) [] 0=(row,left)):stepsM c T (f+1) l=row::stepsM c T f left:=by
 rw[stepsM,if_neg h,hn,if_neg h2,hf]
theorem stepsM_len (c:Int→Int) (T:Tm) (f:Nat) (l:List Int):(stepsM c T f l).length≤f:=by
 induction f generalizing l with
 | zero=>exact Nat.le_refl _
 | succ f ih =>
  unfold stepsM
  split
  · simp
  · split
    · have:=ih (l.drop 1);simp only [List.length_cons];omega
    · simp only [List.length_cons];have:=ih (furM c T (l.drop (tryN T l (firstN T l))) (l.take (tryN T l (firstN T l))) [] 0).2;omega
def elemsM (c:Int→Int) (T:Tm) (l:List Int):List El:=(stepsM c T l.length l).flatMap fun row=>(findM T row).getD (impM (row.getD 0 0))
end Ma
namespace D
open Go.Maps
open So (Fine stable runs runTo CmpAt)
theorem cmpAt_of {D:Dm} (wf:Wf D) {v:Value} {w:World} {B g:Nat} (hc:w.cell? ⟨B,0,none⟩=some v) (hd:DataAt w 0 B v D) (hg:B<g):CmpAt w g B (classM D):=fun x y w' hx hy ho =>
 cmp_any wf v x y hx hy B w' B (ho.cell (by omega) hc) (hd.later (ho.below (by omega)) lr)
theorem Form_any {D:Dm} (wf:Wf D) (v s:Value) (l:List Int) (w:World) (hd:DataAt w 0 w.heap.size v D) (hs:IntsIn w 0 w.heap.size s l) (hf:Fine l) (hlen:l.length≤65536) :
 Calls prog 237 #[v,s] w fun e w'=>∃ u,e=.returned u∧OwnN w' w.heap.size u (formM D l)∧Below w.heap.size w w':=by
 obtain⟨pd,hpd⟩:∃ pd,v=.pointer (some pd):=by obtain⟨pd,_,_,_,h,_⟩:=hd;exact⟨_,h⟩
 subst hpd
 obtain⟨a,cap,rfl,hcap,hcell⟩:=IntsIn.get hs
 have HC:=zh hcell
 have HF:=zh hf
 have HW:=zh wf
 obtain⟨B,hB⟩:∃ B,w.heap.size=B:=⟨_,rfl⟩
 have hb0:Below B w (w.alloc (.cells #[.pointer (some pd)] 100)):=(Below.refl B w).alloc (by omega) _
 have hc0:(w.alloc (.cells #[.pointer (some pd)] 100)).cell? ⟨B,0,none⟩=some (.pointer (some pd)):=by rw[← hB];simp
 have hz0:(w.alloc (.cells #[.pointer (some pd)] 100)).heap.size=B+1:=by simp[hB]
 rw[hB] at hd
 have HD:=zh (hd.later hb0 lr)
 have HB:=zh hB
 have HC0:=zh (show ∀ j (h:j<l.length),∃ g off,a=some ⟨g,off,none⟩∧g<B∧(w.alloc (.cells #[.pointer (some pd)] 100)).cell? ⟨g,off+j,none⟩=some (.int .i64 l[j]) from fun j h=>by
  obtain⟨g,off,ha,_,hg,hc⟩:=HC.out j h
  rw[hB] at hg
  exact⟨g,off,ha,hg,(hb0.cell (p:=⟨g,off+j,none⟩) hg).trans hc⟩)
 have hb0':=zh hb0
 have hc0':=zh hc0
 have hz0':=zh hz0
 clear hd hs hcell hf wf hb0 hc0 hz0 HC
 go_enter func237,ntmps237
 go_wp2_with fail
 generalize w.alloc (.cells #[.pointer (some pd)] 100)=W0 at HD HC0 hb0' hc0' hz0' ⊢
 have HBe:=zh hB
 clear hB
 go_loopw [5,15] (fun o i wr=>∃ (j:Nat) (M:List Int),j≤l.length∧i=.int .i64 j∧OwnN wr (B+1) o M∧Below (B+1) W0 wr∧RowKit.Hid (M=(l.take j).flatMap (partsM D))) (fun _ i _=>l.length-(intOf i).toNat)
 case atStart=>exact⟨0,[],Nat.zero_le _,rfl,OwnN.nil _ _,zr,zh rfl⟩
 case round =>
  obtain⟨j,M,hj,rfl,hO,hB,HM⟩:=hrel
  obtain⟨a5,cap5,rfl⟩:=row_slice hO
  have hcb:wr.cell? ⟨B,0,none⟩=some (.pointer (some pd)):=(hB.cell (p:=⟨B,0,none⟩) (Nat.lt_succ_self _)).trans hc0'.out
  have hsz:B+1≤wr.heap.size:=by have:=hB.size;rw[hz0'.out] at this;exact this
  by_cases hlt:j<l.length
  · obtain⟨g,off,rfl,hg,hc⟩:=HC0.out j hlt
    have hc':=(hB.cell (p:=⟨g,off+j,none⟩) (by show g<B+1;omega)).trans hc
    obtain⟨N,hN⟩:∃ N,partsM D l[j]=N:=⟨_,rfl⟩
    have HN:=zh hN
    have hlen2:M.length+N.length≤1099511627776:=by
     have h1:=flat_le D HW.out (l.take j)
     have h2:=partsM_len HW.out l[j]
     have h3:(l.take j).length≤l.length:=by rw[List.length_take];omega
     rw[HM.out,← hN]
     omega
    clear hN hc
    go_wp2_with fail
    refine(Parts_any HW.out (.pointer (some pd)) l[j] wr (HF.out _ (List.getElem_mem hlt)) ((HD.out.later (hB.mono (Nat.le_succ _)) lr).wide lr (by omega))).mono ?_
    rintro e w2 ⟨u,rfl,hu,hb2⟩
    rw[HN.out] at hu
    have hO2:=hO.below hb2
    have hB2:=hB.trans (hb2.mono hsz)
    have hur:=hu.reads
    have hsz2:B+1≤w2.heap.size:=Nat.le_trans hsz hb2.size
    go_wp2_with (at_builtin;refine wpList_append_ints rfl (.tmp 19) (.tmp 22) rfl rfl hO2 rfl hur hlen2 hB2 hsz2 ?_;intro c3 cap3 w3 hO3 hB3 _ _)
    refine⟨⟨j+1,M++N,by omega,by simp,?_,hB3,zh (by rw[flat_take l _ j hlt,HM.out,HN.out])⟩,by simp[intOf];omega⟩
    simpa using hO3
  · obtain rfl:j=l.length:=by omega
    have hM:=HM.out
    rw[List.take_length] at hM
    obtain⟨n,hn⟩:∃ n,M.length=n:=⟨_,rfl⟩
    have hn2:n≤4194304:=by
     have h1:=flat_le D HW.out l
     rw[← hn,hM];omega
    have HMf:=zh (show Fine M by rw[hM];exact flat_fine HW.out HF.out)
    have HZ:=zh (show runs (classM D) M.length 0 M=formM D l by rw[hM];rfl)
    rw[hn] at HZ
    rcases hO.row with ⟨he,hnil⟩ | ⟨g,cap6,post,he,hg,h1,h2,h3,hrow⟩
    · subst hnil
      simp only [List.length_nil,Value.slice.injEq,true_and] at he
      obtain⟨rfl,rfl⟩:=he
      have HZ2:=zh (show ([]:List Int)=formM D l by rw[← HZ.out,← hn];rfl)
      have hfin:=hb0'.out.trans (hB.mono (Nat.le_succ _))
      clear hM hn
      simp only [List.length_nil]
      rename World=>W1
      go_wp2_with fail
      go_loopw [9,10] (fun vf _ w2=>vf=.int .i64 0∧w2=W1) (fun _ _ _=>0)
      case atStart=>exact⟨rfl,rfl⟩
      case round =>
       obtain⟨rfl,rfl⟩:=hrel
       go_wp2_with fail
       go_ret
       rw[HBe.out]
       exact⟨_,rfl,by rw[← HZ2.out];exact OwnN.nil _ _,hfin⟩
    · cases he
      have hcap:n≤cap5:=by omega
      have HE:=zh (show cap5≤maxLen∧n+post.length=cap5 by rw[← hn];exact⟨h2,h3⟩)
      have HNn:=zh hn
      rw[hn]
      have HB1:=zh hB
      clear hM hn hO h1 h2 h3 hB HM
      rename World=>W1
      go_wp2_with fail
      go_loopw [9,10] (fun vf _ w2=>∃ (i f:Nat) (L:List Int),vf=.int .i64 (i:Int)∧i≤n+1∧n≤i+f∧InRow w2 g 0 [] post L∧Oth g W1 w2∧RowKit.Hid (L.length=n∧Fine L)∧RowKit.Hid (runs (classM D) f i L=formM D l)) (fun vf _ _=>n+1-(intOf vf).toNat)
      case atStart=>exact⟨0,n,M,rfl,by omega,by omega,hrow,Oth.refl _ _,zh ⟨HNn.out,HMf.out⟩,HZ⟩
      case round =>
       clear hrow HMf HZ
       obtain⟨i,f,L,rfl,hi,hf,hrow,ho,HL,HR⟩:=hrel
       by_cases hlt2:i<n
       · have q1:decide ((i:Int)<(n:Int))=true:=by simp;omega
         obtain⟨f,rfl⟩:∃ k,f=k+1:=⟨f-1,by omega⟩
         obtain⟨t,ht⟩:∃ t,runTo (classM D) L n i=t:=⟨_,rfl⟩
         have hti:=So.runTo_in (classM D) L n i (by rw[HL.out.1];omega)
         rw[ht,HL.out.1] at hti
         rw[So.runs_go (t:=t) (by rw[HL.out.1];exact hlt2) (by rw[HL.out.1,ht])] at HR
         have HT:=zh ht
         clear ht
         go_wp2_with fail
         go_loopw [10] (fun vt w3=>∃ (k fk:Nat),vt=.int .i64 (k:Int)∧i≤k∧k≤n∧n≤k+fk∧InRow w3 g 0 [] post L∧Oth g W1 w3∧RowKit.Hid (runTo (classM D) L fk k=t)) (fun vt _=>n-(intOf vt).toNat)
         case atStart=>exact⟨i,n,rfl,Nat.le_refl _,by omega,by omega,hrow,ho,HT⟩
         case round =>
          clear hrow ho HT
          obtain⟨k,fk,rfl,hik,hkn,hfk,hrow,ho,HT⟩:=hrel
          have hcb2:wr.cell? ⟨B,0,none⟩=some (.pointer (some pd)):=ho.cell (by omega) hcb
          have HD3:=zh (show DataAt wr 0 B (.pointer (some pd)) D from HD.out.later ((HB1.out.mono (Nat.le_succ _)).trans (ho.below (by omega))) lr)
          by_cases hlt3:k<n
          · have q2:decide ((k:Int)<(n:Int))=true:=by simp;omega
            obtain⟨fk,rfl⟩:∃ z,fk=z+1:=⟨fk-1,by omega⟩
            obtain⟨x,hx⟩:∃ x,L[k]'(by rw[HL.out.1];omega)=x:=⟨_,rfl⟩
            have cx:=hrow.cell k (by rw[HL.out.1];omega)
            have fx:=HL.out.2.at (i:=k) (by rw[HL.out.1];omega)
            rw[hx] at cx fx
            rw[Nat.zero_add] at cx
            have jk:(k:Int)<(n:Int):=by omega
            by_cases hcl:classM D x=0
            · have q3:(classM D x != 0)=false:=by simpa using hcl
              have HS:=zh (show k=t by rw[← HT.out];exact(So.runTo_stop (by rw[HL.out.1];exact hlt3) (by rw[hx];simpa using hcl)).symm)
              clear hx hcl
              go_wp2_with fail
              go_quiet (exact Calls.quiet_of_same (Class_any _ D _ (by assumption) _ B HD3.out))
              go_wp2_with fail
              refine(So.SortStable_any (classM D) g i B (cap5-i) (k-i) _ _ ((L.drop i).take (k-i)) (wr.drewN nq) (by rw[List.length_take,List.length_drop,HL.out.1];omega) (InRow.sub (w:=wr.drewN nq) hrow hik (by rw[HL.out.1];omega)) ((HL.out.2.dp _).tk _) (by omega) (cmpAt_of (w:=wr.drewN nq) HW.out hcb2 HD3.out (by omega))).mono ?_
              rintro e w4 ⟨rfl,hr4,ho4⟩
              have hj:=hr4.join
              have hO4:=(ho.trans (Oth.drew nq)).trans ho4
              have HL4:=So.runs_step (c:=classM D) hik (by rw[HL.out.1];exact hkn) HL.out.2
              rw[HL.out.1] at HL4
              have HL5:=zh HL4
              clear hrow ho ho4 hr4 HL4
              rw[← HS.out] at HR
              go_wp2_with fail
              exact⟨⟨k+1,f,_,by simp,by omega,by omega,hj,hO4,HL5,HR⟩,by simp[intOf];omega⟩
            · have q3:(classM D x != 0)=true:=by simpa using hcl
              have HS:=zh (show runTo (classM D) L fk (k+1)=t by rw[← HT.out];exact(So.runTo_go (by rw[HL.out.1];exact hlt3) (by rw[hx];exact hcl)).symm)
              clear hx hcl
              go_wp2_with fail
              go_quiet (exact Calls.quiet_of_same (Class_any _ D _ (by assumption) _ B HD3.out))
              go_wp2_with fail
              exact⟨⟨k+1,fk,by simp,by omega,by omega,by omega,hrow,ho.trans (Oth.drew nq),HS⟩,by simp[intOf];omega⟩
          · have q2:decide ((k:Int)<(n:Int))=false:=by simp;omega
            have HS:=zh (show k=t by rw[← HT.out];exact(So.runTo_end (by rw[HL.out.1];exact hlt3)).symm)
            go_wp2_with fail
            go_quiet (fail)
            go_wp2_with fail
            refine(So.SortStable_any (classM D) g i B (cap5-i) (k-i) _ _ ((L.drop i).take (k-i)) (wr.drewN nq) (by rw[List.length_take,List.length_drop,HL.out.1];omega) (InRow.sub (w:=wr.drewN nq) hrow hik (by rw[HL.out.1];omega)) ((HL.out.2.dp _).tk _) (by omega) (cmpAt_of (w:=wr.drewN nq) HW.out hcb2 HD3.out (by omega))).mono ?_
            rintro e w4 ⟨rfl,hr4,ho4⟩
            have hj:=hr4.join
            have hO4:=(ho.trans (Oth.drew nq)).trans ho4
            have HL4:=So.runs_step (c:=classM D) hik (by rw[HL.out.1];exact hkn) HL.out.2
            rw[HL.out.1] at HL4
            have HL5:=zh HL4
            clear hrow ho ho4 hr4 HL4
            rw[← HS.out] at HR
            go_wp2_with fail
            exact⟨⟨k+1,f,_,by simp,by omega,by omega,hj,hO4,HL5,HR⟩,by simp[intOf];omega⟩
       · have q1:decide ((i:Int)<(n:Int))=false:=by simp;omega
         have hz:L=formM D l:=by rw[← HR.out];exact(So.runs_end (by rw[HL.out.1];exact hlt2)).symm
         rw[hz] at hrow HL
         have hown:=InRow.own (base:=B) (cap:=cap5) hrow (by omega) (by rw[HL.out.1];exact hcap) HE.out.1 (by rw[HL.out.1];exact HE.out.2)
         rw[HL.out.1] at hown
         have hfin:=(hb0'.out.trans (HB1.out.mono (Nat.le_succ _))).trans (ho.below (by omega))
         clear hz
         go_wp2_with fail
         go_ret
         rw[HBe.out]
         exact⟨_,rfl,hown,hfin⟩
