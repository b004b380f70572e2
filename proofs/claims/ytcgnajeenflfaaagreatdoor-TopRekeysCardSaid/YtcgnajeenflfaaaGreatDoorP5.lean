import Derived.Test.YtcgnajeenflfaaaGreatDoorP4
set_option maxRecDepth 100000
set_option maxHeartbeats 4000000
set_option linter.all false
open Go.Proofs.Tryz Go.RowKit
namespace Go.Proofs.YtcgnajeenflfaaaGreatDoor
namespace So
open D (aF)
theorem nK.oth {w w':World} {g bx:Nat} {c:Int→Int} (h:nK w g bx c) (ho:fM g w w'):nK w' g bx c:=fun x y w2 hx hy ho2=>h x y w2 hx hy (ho.trans ho2)
theorem aM.nth {l:List Int} (h:aM l) (i:Nat):aF (l.getD i 0):=by
 by_cases hi:i<l.length
 · rw[getD_at hi];exact h.at hi
 · rw[List.getD,List.getElem?_eq_none (by omega)];exact⟨by decide,by decide⟩
theorem aM.sw {l:List Int} (h:aM l) (i j:Nat):aM (So.swp l i j):=fun x hx=>by
 unfold So.swp at hx;rcases List.mem_or_eq_of_mem_set hx with h1 | h1
 · rcases List.mem_or_eq_of_mem_set h1 with h2 | h2
   · exact h x h2
   · rw[h2];exact h.nth j
 · rw[h1];exact h.nth i
theorem aM.fJ {l:List Int} (h:aM l) (a b k i:Nat):aM (So.fJ a b k i l):=by
 induction k generalizing i l with
 | zero=>exact h
 | succ k ih=>exact ih (h.sw _ _) _
theorem aM.rot {l:List Int} (h:aM l) (m f i j:Nat):aM (So.rot m f i j l):=by
 induction f generalizing i j l with
 | zero=>exact h.fJ _ _ _ _
 | succ f ih =>
  unfold So.rot;split
  · exact h.fJ _ _ _ _
  · split
    · exact ih (h.fJ _ _ _ _) _ _
    · exact ih (h.fJ _ _ _ _) _ _
theorem aM.rotate {l:List Int} (h:aM l) (a m b:Nat):aM (So.rotate l a m b):=h.rot _ _ _ _
theorem aM.upS {l:List Int} (h:aM l) (n k:Nat):aM (So.upS n k l):=by
 induction n generalizing k l with
 | zero=>exact h
 | succ n ih=>exact ih (h.sw _ _) _
theorem aM.dnS {l:List Int} (h:aM l) (n k:Nat):aM (So.dnS n k l):=by
 induction n generalizing k l with
 | zero=>exact h
 | succ n ih=>exact ih (h.sw _ _) _
theorem aM.gH {l:List Int} (h:aM l) (c:Int→Int) (f a m b:Nat):aM (So.gH c f a m b l):=by
 induction f generalizing a m b l with
 | zero=>exact h
 | succ f ih =>
  unfold So.gH;split
  · exact h.upS _ _
  · split
    · exact h.dnS _ _
    · dsimp only
      repeat' split
      all_goals first | exact ih (ih (h.rotate _ _ _) _ _ _) _ _ _ | exact ih (ih h _ _ _) _ _ _ | exact ih (h.rotate _ _ _) _ _ _ | exact ih h _ _ _ | exact h.rotate _ _ _ | exact h
def aIg (c:Int→Int) (l:List Int) (n h:Nat):Bool:=!decide (c (l.getD (n-1-h) 0)<c (l.getD h 0))
def bBe (c:Int→Int) (f mid b fin:Nat) (l2:List Int):List Int:=if mid<fin∧fin<b then gH c f mid fin b l2 else l2
def bBf (c:Int→Int) (f a mid start:Nat) (l1:List Int):List Int:=if a<start∧start<mid then gH c f a start mid l1 else l1
def bBg (m start fin:Nat) (l:List Int):List Int:=if start<m∧m<fin then rotate l start m fin else l
theorem aGc {c:Int→Int} {f a m b mid lo hi st:Nat} {l:List Int} (h1:m-a≠1) (h2:b-m≠1) (hm:(a+b) / 2=mid) (hl:(if mid<m then mid+m-b else a)=lo) (hh:(if mid<m then mid else m)=hi) (hs:half (aIg c l (mid+m)) (hi-lo) lo hi=st) :
 gH c (f+1) a m b l=bBe c f mid b (mid+m-st) (bBf c f a mid st (bBg m st (mid+m-st) l)):=by
 subst hm hl hh hs;rw[gH,if_neg h1,if_neg h2];rfl
theorem sU {m st fin:Nat} {l:List Int} (h1:st<m) (h2:m<fin):bBg m st fin l=rotate l st m fin:=if_pos ⟨h1,h2⟩
theorem aIh {m st fin:Nat} {l:List Int} (h:¬ (st<m∧m<fin)):bBg m st fin l=l:=if_neg h
theorem aDk {c:Int→Int} {f a mid st:Nat} {l:List Int} (h1:a<st) (h2:st<mid):bBf c f a mid st l=gH c f a st mid l:=if_pos ⟨h1,h2⟩
theorem vS {c:Int→Int} {f a mid st:Nat} {l:List Int} (h:¬ (a<st∧st<mid)):bBf c f a mid st l=l:=if_neg h
theorem aDl {c:Int→Int} {f mid b fin:Nat} {l:List Int} (h1:mid<fin) (h2:fin<b):bBe c f mid b fin l=gH c f mid fin b l:=if_pos ⟨h1,h2⟩
theorem vT {c:Int→Int} {f mid b fin:Nat} {l:List Int} (h:¬ (mid<fin∧fin<b)):bBe c f mid b fin l=l:=if_neg h
def bBh (c:Int→Int) (g off bx cap n:Nat) (pre post:List Value) (f:Nat):Prop :=
 ∀ (a m b:Nat) (x y z:Int) (l:List Int) (w:World),(a:Int)=x→(m:Int)=y→(b:Int)=z→l.length=n→aN w g off pre post l→aM l→a<m→m<b→b≤n→b-a≤f→nK w g bx c →
  Calls prog 251 #[.slice (some ⟨g,off,none⟩) n cap,.int .i64 x,.int .i64 y,.int .i64 z,.func (.func 244) #[] #[.pointer (some ⟨bx,0,none⟩)]] w fun e w' =>
   e=.returned (.tuple #[])∧aN w' g off pre post (gH c f a m b l)∧fM g w w'
theorem bIr (c:Int→Int) (g off bx cap n:Nat) (pre post:List Value) (hlen:n≤4194304) (f:Nat) (IH:bBh c g off bx cap n pre post f) (a m b mid:Nat) (l:List Int) (w:World) (hn:l.length=n) (hr:aN w g off pre post l) (hf:aM l) (ham:a+1<m) (hmb:m+1<b) (hb:b≤n) (hfu:b-a≤f+1) (hc:nK w g bx c) (hmid:(a+b) / 2=mid) (hcase:mid<m) :
 Calls prog 251 #[.slice (some ⟨g,off,none⟩) n cap,.int .i64 (a:Int),.int .i64 (m:Int),.int .i64 (b:Int),.func (.func 244) #[] #[.pointer (some ⟨bx,0,none⟩)]] w fun e w' =>
  e=.returned (.tuple #[])∧aN w' g off pre post (gH c (f+1) a m b l)∧fM g w w':=by
 have hmm:a<mid∧mid<b∧2*mid≤a+b∧a+b≤2*mid+1:=by omega
 obtain⟨N,hN⟩:∃ N,mid+m=N:=⟨_,rfl⟩
 obtain⟨lo,hlo⟩:∃ lo,N-b=lo:=⟨_,rfl⟩
 obtain⟨hi,hhi⟩:∃ hi,mid=hi:=⟨_,rfl⟩
 have hst:=aAy (aIg c l N) (hi-lo) lo hi (by omega);obtain⟨st,hs⟩:∃ st,half (aIg c l N) (hi-lo) lo hi=st:=⟨_,rfl⟩
 have HL:=zh (show gH c (f+1) a m b l=bBe c f mid b (N-st) (bBf c f a mid st (bBg m st (N-st) l)) by rw[← hN] at hs ⊢;exact aGc (by omega) (by omega) hmid (by rw[if_pos hcase];omega) (by rw[if_pos hcase];omega) hs);obtain⟨T,hT⟩:∃ T:Nat→Bool,aIg c l N=T:=⟨_,rfl⟩
 rw[hT] at hs hst;rw[hs] at hst;obtain⟨fin,hfin⟩:∃ fin,N-st=fin:=⟨_,rfl⟩
 have uK:=zh hfin;have HS:=zh hs;have HT:=zh hT;have HC:=zh hc;have HN:=zh hn;have HF:=zh hf;have HI:=zh IH;obtain⟨P,hP⟩:∃ P,N-1=P:=⟨_,rfl⟩
 have q00:((m:Int)-(a:Int)==1)=false:=by simp;omega
 have q0:((b:Int)-(m:Int)==1)=false:=by simp;omega
 have qc:decide ((mid:Int)<(m:Int))=true:=by simp;omega
 have bIs:((a:Int)+(b:Int)) / 2=(mid:Int):=by omega
 have eN:((mid:Int)+(m:Int))=(N:Int):=by omega
 have eP:((N:Int)-1)=(P:Int):=by omega
 have elo:((N:Int)-(b:Int))=(lo:Int):=by omega
 have HX:=zh (show N=mid+m∧N-1=P∧lo=N-b∧hi=mid∧b≤N from⟨hN.symm,hP,hlo.symm,hhi.symm,by omega⟩);subst hhi;rw[hfin] at HL;clear hc hn hf hT hs hP hN hmid hfin IH hlo;go_enter func251,ntmps251;go_wp2_with fail;go_loopw [20,21] (fun vi vj wr=>∃ (i j f:Nat),vi=.int .i64 (i:Int)∧vj=.int .i64 (j:Int)∧lo≤i∧i≤j∧j≤mid∧j-i≤f∧aN wr g off pre post l∧fM g w wr∧RowKit.Hid (half T f i j=st)) (fun vi vj _=>(intOf vj).toNat-(intOf vi).toNat)
 case atStart=>exact⟨lo,mid,mid-lo,rfl,rfl,by omega,by omega,by omega,by omega,hr,fM.refl _ _,HS⟩
 case round =>
  clear bIs;obtain⟨i,j,fz,rfl,rfl,hi,hij,hj,hfu2,hrow,ho,HO⟩:=hrel;by_cases hlt:i<j
  · obtain⟨fz,rfl⟩:∃ k,fz=k+1:=⟨fz-1,by omega⟩
    have q1:decide ((i:Int)<(j:Int))=true:=by simp;omega
    obtain⟨h,hh⟩:∃ h,(i+j) / 2=h:=⟨_,rfl⟩
    have hih:i≤h∧h<j:=by omega
    have hx:=HX.out;obtain⟨s,hs⟩:∃ s,P-h=s:=⟨_,rfl⟩
    have hs1:s<n:=by omega
    have hs2:N-1-h=s:=by omega
    obtain⟨u,hu⟩:∃ u,l[h]'(by rw[HN.out];omega)=u:=⟨_,rfl⟩
    obtain⟨v,hv⟩:∃ v,l[s]'(by rw[HN.out];omega)=v:=⟨_,rfl⟩
    have cu:=hrow.cell h (by rw[HN.out];omega);have cv:=hrow.cell s (by rw[HN.out];omega);have fu:=HF.out.at (i:=h) (by rw[HN.out];omega);have fv:=HF.out.at (i:=s) (by rw[HN.out];omega);rw[hu] at cu fu;rw[hv] at cv fv;have HTh:=zh (show T h=!decide (c v<c u) by rw[← HT.out];unfold aIg;rw[hs2];simp only [getD_at (show h<l.length by rw[HN.out];omega),getD_at (show s<l.length by rw[HN.out];omega),hu,hv]);have HQ:=zh (show ∀ m,Calls prog 244 #[.int .i64 v,.int .i64 u,.pointer (some ⟨bx,0,none⟩)] (wr.drewN m) fun e w''=>e=.returned (.int .i64 (c v-c u))∧∃ n,w''=(wr.drewN m).drewN n from fun m=>HC.out v u _ fv fu (ho.trans (fM.drew m)));have jh:(h:Int)<(n:Int):=by omega
    have ja:(s:Int)<(n:Int):=by omega
    have es:(P:Int)-(h:Int)=(s:Int):=by omega
    have eh:((i:Int)+(j:Int)) / 2=(h:Int):=by omega
    by_cases hcv:¬ c v<c u
    · have q3:decide (c v-c u<0)=false:=by simp;omega
      have vZ:=zh (show half T fz (h+1) j=st by rw[← HO.out,wU (t:=T) (f:=fz) hlt (by rw[hh,HTh.out];simpa using hcv),hh]);clear hcv hu hv hh fu fv hx hs hs2;go_wp2_with fail;go_quiet (exact Calls.quiet_of (HQ.out _));go_wp2_with fail;exact⟨⟨h+1,j,fz,by simp,rfl,by omega,by omega,by omega,by omega,hrow,ho.trans (fM.drew nq),vZ⟩,by simp[intOf];omega⟩
    · have q3:decide (c v-c u<0)=true:=by simp;omega
      have vZ:=zh (show half T fz i h=st by rw[← HO.out,aAz (t:=T) (f:=fz) hlt (by rw[hh,HTh.out];simpa using hcv),hh]);clear hcv hu hv hh fu fv hx hs hs2;go_wp2_with fail;go_quiet (exact Calls.quiet_of (HQ.out _));go_wp2_with fail;exact⟨⟨i,h,fz,rfl,rfl,by omega,by omega,by omega,by omega,hrow,ho.trans (fM.drew nq),vZ⟩,by simp[intOf];omega⟩
  · obtain rfl:i=st:=by rw[← HO.out,wV hlt]
    have q1:decide ((i:Int)<(j:Int))=false:=by simp;omega
    have hx:=HX.out;have hfin:=uK.out;have bVb:(N:Int)-(i:Int)=(fin:Int):=by omega
    have hfi:mid<fin∧m≤fin∧fin≤b∧(m<fin↔i<mid)∧(fin<b↔lo<i):=by omega
    clear hr HO hfin;by_cases c6:i<mid
    · by_cases c8:a<i
      · by_cases c10:lo<i
        · have d0:decide ((i:Int)<(m:Int))=true:=by simp<;>omega
          have d1:decide ((m:Int)<(fin:Int))=true:=by simp<;>omega
          have d2:decide ((a:Int)<(i:Int))=true:=by simp<;>omega
          have d3:decide ((i:Int)<(mid:Int))=true:=by simp<;>omega
          have d4:decide ((mid:Int)<(fin:Int))=true:=by simp<;>omega
          have d5:decide ((fin:Int)<(b:Int))=true:=by simp<;>omega
          rw[aDl (by omega) (by omega),aDk (by omega) (by omega),sU (by omega) (by omega)] at HL;have HG:=zh (show (rotate l i m fin).length=n∧aM (rotate l i m fin) from⟨by rw[dG];exact HN.out,HF.out.rotate _ _ _⟩);have e0:i<m∧m<fin:=by omega
          have e1:a<i∧i<mid:=by omega
          have e2:mid<fin∧fin<b:=by omega
          have eb:fin≤b:=by omega
          clear hx hfi;go_wp2_with fail;refine(iA g off cap n i m fin _ _ _ rfl rfl rfl _ pre post l wr HN.out hrow (by omega) (by omega) (by omega) hlen).mono ?_;rintro e w1 ⟨rfl,hr1,ho1⟩;have jX:=ho.trans ho1;clear hrow ho ho1;go_wp2_with fail;refine(HI.out a i mid _ _ _ (rotate l i m fin) w1 rfl rfl rfl HG.out.1 hr1 HG.out.2 (by omega) (by omega) (by omega) (by omega) (HC.out.oth jX)).mono ?_;rintro e w2 ⟨rfl,hr2,ho2⟩;have hO2:=jX.trans ho2;clear hr1 jX ho2;go_wp2_with fail;have HG2:=zh (show (gH c f a i mid (rotate l i m fin)).length=n∧aM (gH c f a i mid (rotate l i m fin)) from⟨by rw[kR];exact HG.out.1,HG.out.2.gH _ _ _ _ _⟩);refine(HI.out mid fin b _ _ _ (gH c f a i mid (rotate l i m fin)) w2 rfl rfl rfl HG2.out.1 hr2 HG2.out.2 (by omega) (by omega) (by omega) (by omega) (HC.out.oth hO2)).mono ?_;rintro e w3 ⟨rfl,hr3,ho3⟩;have hO3:=hO2.trans ho3;clear hr2 hO2 ho3;go_wp2_with fail;all_goals (go_end0;rw[HL.out];exact⟨rfl,hr3,hO3⟩)
        · have d0:decide ((i:Int)<(m:Int))=true:=by simp<;>omega
          have d1:decide ((m:Int)<(fin:Int))=true:=by simp<;>omega
          have d2:decide ((a:Int)<(i:Int))=true:=by simp<;>omega
          have d3:decide ((i:Int)<(mid:Int))=true:=by simp<;>omega
          have d4:decide ((mid:Int)<(fin:Int))=true:=by simp<;>omega
          have d5:decide ((fin:Int)<(b:Int))=false:=by simp<;>omega
          rw[vT (by omega),aDk (by omega) (by omega),sU (by omega) (by omega)] at HL;have HG:=zh (show (rotate l i m fin).length=n∧aM (rotate l i m fin) from⟨by rw[dG];exact HN.out,HF.out.rotate _ _ _⟩);have e0:i<m∧m<fin:=by omega
          have e1:a<i∧i<mid:=by omega
          have eb:fin≤b:=by omega
          clear hx hfi;go_wp2_with fail;refine(iA g off cap n i m fin _ _ _ rfl rfl rfl _ pre post l wr HN.out hrow (by omega) (by omega) (by omega) hlen).mono ?_;rintro e w1 ⟨rfl,hr1,ho1⟩;have jX:=ho.trans ho1;clear hrow ho ho1;go_wp2_with fail;refine(HI.out a i mid _ _ _ (rotate l i m fin) w1 rfl rfl rfl HG.out.1 hr1 HG.out.2 (by omega) (by omega) (by omega) (by omega) (HC.out.oth jX)).mono ?_;rintro e w2 ⟨rfl,hr2,ho2⟩;have hO2:=jX.trans ho2;clear hr1 jX ho2;go_wp2_with fail;all_goals (go_end0;rw[HL.out];exact⟨rfl,hr2,hO2⟩)
      · by_cases c10:lo<i
        · have d0:decide ((i:Int)<(m:Int))=true:=by simp<;>omega
          have d1:decide ((m:Int)<(fin:Int))=true:=by simp<;>omega
          have d2:decide ((a:Int)<(i:Int))=false:=by simp<;>omega
          have d3:decide ((mid:Int)<(fin:Int))=true:=by simp<;>omega
          have d4:decide ((fin:Int)<(b:Int))=true:=by simp<;>omega
          rw[aDl (by omega) (by omega),vS (by omega),sU (by omega) (by omega)] at HL;have HG:=zh (show (rotate l i m fin).length=n∧aM (rotate l i m fin) from⟨by rw[dG];exact HN.out,HF.out.rotate _ _ _⟩);have e0:i<m∧m<fin:=by omega
          have e1:mid<fin∧fin<b:=by omega
          have eb:fin≤b:=by omega
          clear hx hfi;go_wp2_with fail;refine(iA g off cap n i m fin _ _ _ rfl rfl rfl _ pre post l wr HN.out hrow (by omega) (by omega) (by omega) hlen).mono ?_;rintro e w1 ⟨rfl,hr1,ho1⟩;have jX:=ho.trans ho1;clear hrow ho ho1;go_wp2_with fail;refine(HI.out mid fin b _ _ _ (rotate l i m fin) w1 rfl rfl rfl HG.out.1 hr1 HG.out.2 (by omega) (by omega) (by omega) (by omega) (HC.out.oth jX)).mono ?_;rintro e w3 ⟨rfl,hr3,ho3⟩;have hO3:=jX.trans ho3;clear hr1 jX ho3;go_wp2_with fail;all_goals (go_end0;rw[HL.out];exact⟨rfl,hr3,hO3⟩)
        · have d0:decide ((i:Int)<(m:Int))=true:=by simp<;>omega
          have d1:decide ((m:Int)<(fin:Int))=true:=by simp<;>omega
          have d2:decide ((a:Int)<(i:Int))=false:=by simp<;>omega
          have d3:decide ((mid:Int)<(fin:Int))=true:=by simp<;>omega
          have d4:decide ((fin:Int)<(b:Int))=false:=by simp<;>omega
          rw[vT (by omega),vS (by omega),sU (by omega) (by omega)] at HL;have HG:=zh (show (rotate l i m fin).length=n∧aM (rotate l i m fin) from⟨by rw[dG];exact HN.out,HF.out.rotate _ _ _⟩);have e0:i<m∧m<fin:=by omega
          have eb:fin≤b:=by omega
          clear hx hfi;go_wp2_with fail;refine(iA g off cap n i m fin _ _ _ rfl rfl rfl _ pre post l wr HN.out hrow (by omega) (by omega) (by omega) hlen).mono ?_;rintro e w1 ⟨rfl,hr1,ho1⟩;have jX:=ho.trans ho1;clear hrow ho ho1;go_wp2_with fail;all_goals (go_end0;rw[HL.out];exact⟨rfl,hr1,jX⟩)
    · by_cases c8:lo<i
      · have d0:decide ((i:Int)<(m:Int))=true:=by simp<;>omega
        have d1:decide ((m:Int)<(fin:Int))=false:=by simp<;>omega
        have d2:decide ((a:Int)<(i:Int))=true:=by simp<;>omega
        have d3:decide ((i:Int)<(mid:Int))=false:=by simp<;>omega
        have d4:decide ((mid:Int)<(fin:Int))=true:=by simp<;>omega
        have d5:decide ((fin:Int)<(b:Int))=true:=by simp<;>omega
        rw[aDl (by omega) (by omega),vS (by omega),aIh (by omega)] at HL;have HG:=zh (show (l).length=n∧aM (l) from⟨by exact HN.out,HF.out⟩);have e0:mid<fin∧fin<b:=by omega
        have eb:fin≤b:=by omega
        clear hx hfi;go_wp2_with fail;refine(HI.out mid fin b _ _ _ (l) wr rfl rfl rfl HG.out.1 hrow HG.out.2 (by omega) (by omega) (by omega) (by omega) (HC.out.oth ho)).mono ?_;rintro e w3 ⟨rfl,hr3,ho3⟩;have hO3:=ho.trans ho3;clear hrow ho ho3;go_wp2_with fail;all_goals (go_end0;rw[HL.out];exact⟨rfl,hr3,hO3⟩)
      · have d0:decide ((i:Int)<(m:Int))=true:=by simp<;>omega
        have d1:decide ((m:Int)<(fin:Int))=false:=by simp<;>omega
        have d2:decide ((a:Int)<(i:Int))=true:=by simp<;>omega
        have d3:decide ((i:Int)<(mid:Int))=false:=by simp<;>omega
        have d4:decide ((mid:Int)<(fin:Int))=true:=by simp<;>omega
        have d5:decide ((fin:Int)<(b:Int))=false:=by simp<;>omega
        rw[vT (by omega),vS (by omega),aIh (by omega)] at HL;have HG:=zh (show (l).length=n∧aM (l) from⟨by exact HN.out,HF.out⟩);have eb:fin≤b:=by omega
        clear hx hfi;go_wp2_with fail;all_goals (go_end0;rw[HL.out];exact⟨rfl,hrow,ho⟩)
theorem bIt (c:Int→Int) (g off bx cap n:Nat) (pre post:List Value) (hlen:n≤4194304) (f:Nat) (IH:bBh c g off bx cap n pre post f) (a m b mid:Nat) (l:List Int) (w:World) (hn:l.length=n) (hr:aN w g off pre post l) (hf:aM l) (ham:a+1<m) (hmb:m+1<b) (hb:b≤n) (hfu:b-a≤f+1) (hc:nK w g bx c) (hmid:(a+b) / 2=mid) (hcase:m≤mid) :
 Calls prog 251 #[.slice (some ⟨g,off,none⟩) n cap,.int .i64 (a:Int),.int .i64 (m:Int),.int .i64 (b:Int),.func (.func 244) #[] #[.pointer (some ⟨bx,0,none⟩)]] w fun e w' =>
  e=.returned (.tuple #[])∧aN w' g off pre post (gH c (f+1) a m b l)∧fM g w w':=by
 have hmm:a<mid∧mid<b∧2*mid≤a+b∧a+b≤2*mid+1:=by omega
 obtain⟨N,hN⟩:∃ N,mid+m=N:=⟨_,rfl⟩
 obtain⟨lo,hlo⟩:∃ lo,a=lo:=⟨_,rfl⟩
 obtain⟨hi,hhi⟩:∃ hi,m=hi:=⟨_,rfl⟩
 have hst:=aAy (aIg c l N) (hi-lo) lo hi (by omega);obtain⟨st,hs⟩:∃ st,half (aIg c l N) (hi-lo) lo hi=st:=⟨_,rfl⟩
 have HL:=zh (show gH c (f+1) a m b l=bBe c f mid b (N-st) (bBf c f a mid st (bBg m st (N-st) l)) by rw[← hN] at hs ⊢;exact aGc (by omega) (by omega) hmid (by rw[if_neg (by omega)];omega) (by rw[if_neg (by omega)];omega) hs);obtain⟨T,hT⟩:∃ T:Nat→Bool,aIg c l N=T:=⟨_,rfl⟩
 rw[hT] at hs hst;rw[hs] at hst;obtain⟨fin,hfin⟩:∃ fin,N-st=fin:=⟨_,rfl⟩
 have uK:=zh hfin;have HS:=zh hs;have HT:=zh hT;have HC:=zh hc;have HN:=zh hn;have HF:=zh hf;have HI:=zh IH;obtain⟨P,hP⟩:∃ P,N-1=P:=⟨_,rfl⟩
 have q00:((m:Int)-(a:Int)==1)=false:=by simp;omega
 have q0:((b:Int)-(m:Int)==1)=false:=by simp;omega
 have qc:decide ((mid:Int)<(m:Int))=false:=by simp;omega
 have bIs:((a:Int)+(b:Int)) / 2=(mid:Int):=by omega
 have eN:((mid:Int)+(m:Int))=(N:Int):=by omega
 have eP:((N:Int)-1)=(P:Int):=by omega
 have HX:=zh (show N=mid+m∧N-1=P from⟨hN.symm,hP⟩);subst hlo hhi;rw[hfin] at HL;clear hc hn hf hT hs hP hN hmid hfin IH;go_enter func251,ntmps251;go_wp2_with fail;go_loopw [20,21] (fun vi vj wr=>∃ (i j f:Nat),vi=.int .i64 (i:Int)∧vj=.int .i64 (j:Int)∧a≤i∧i≤j∧j≤m∧j-i≤f∧aN wr g off pre post l∧fM g w wr∧RowKit.Hid (half T f i j=st)) (fun vi vj _=>(intOf vj).toNat-(intOf vi).toNat)
 case atStart=>exact⟨a,m,m-a,rfl,rfl,by omega,by omega,by omega,by omega,hr,fM.refl _ _,HS⟩
 case round =>
  clear bIs;obtain⟨i,j,fz,rfl,rfl,hi,hij,hj,hfu2,hrow,ho,HO⟩:=hrel;by_cases hlt:i<j
  · obtain⟨fz,rfl⟩:∃ k,fz=k+1:=⟨fz-1,by omega⟩
    have q1:decide ((i:Int)<(j:Int))=true:=by simp;omega
    obtain⟨h,hh⟩:∃ h,(i+j) / 2=h:=⟨_,rfl⟩
    have hih:i≤h∧h<j:=by omega
    have hx:=HX.out;obtain⟨s,hs⟩:∃ s,P-h=s:=⟨_,rfl⟩
    have hs1:s<n:=by omega
    have hs2:N-1-h=s:=by omega
    obtain⟨u,hu⟩:∃ u,l[h]'(by rw[HN.out];omega)=u:=⟨_,rfl⟩
    obtain⟨v,hv⟩:∃ v,l[s]'(by rw[HN.out];omega)=v:=⟨_,rfl⟩
    have cu:=hrow.cell h (by rw[HN.out];omega);have cv:=hrow.cell s (by rw[HN.out];omega);have fu:=HF.out.at (i:=h) (by rw[HN.out];omega);have fv:=HF.out.at (i:=s) (by rw[HN.out];omega);rw[hu] at cu fu;rw[hv] at cv fv;have HTh:=zh (show T h=!decide (c v<c u) by rw[← HT.out];unfold aIg;rw[hs2];simp only [getD_at (show h<l.length by rw[HN.out];omega),getD_at (show s<l.length by rw[HN.out];omega),hu,hv]);have HQ:=zh (show ∀ m,Calls prog 244 #[.int .i64 v,.int .i64 u,.pointer (some ⟨bx,0,none⟩)] (wr.drewN m) fun e w''=>e=.returned (.int .i64 (c v-c u))∧∃ n,w''=(wr.drewN m).drewN n from fun m=>HC.out v u _ fv fu (ho.trans (fM.drew m)));have jh:(h:Int)<(n:Int):=by omega
    have ja:(s:Int)<(n:Int):=by omega
    have es:(P:Int)-(h:Int)=(s:Int):=by omega
    have eh:((i:Int)+(j:Int)) / 2=(h:Int):=by omega
    by_cases hcv:¬ c v<c u
    · have q3:decide (c v-c u<0)=false:=by simp;omega
      have vZ:=zh (show half T fz (h+1) j=st by rw[← HO.out,wU (t:=T) (f:=fz) hlt (by rw[hh,HTh.out];simpa using hcv),hh]);clear hcv hu hv hh fu fv hx hs hs2;go_wp2_with fail;go_quiet (exact Calls.quiet_of (HQ.out _));go_wp2_with fail;exact⟨⟨h+1,j,fz,by simp,rfl,by omega,by omega,by omega,by omega,hrow,ho.trans (fM.drew nq),vZ⟩,by simp[intOf];omega⟩
    · have q3:decide (c v-c u<0)=true:=by simp;omega
      have vZ:=zh (show half T fz i h=st by rw[← HO.out,aAz (t:=T) (f:=fz) hlt (by rw[hh,HTh.out];simpa using hcv),hh]);clear hcv hu hv hh fu fv hx hs hs2;go_wp2_with fail;go_quiet (exact Calls.quiet_of (HQ.out _));go_wp2_with fail;exact⟨⟨i,h,fz,rfl,rfl,by omega,by omega,by omega,by omega,hrow,ho.trans (fM.drew nq),vZ⟩,by simp[intOf];omega⟩
  · obtain rfl:i=st:=by rw[← HO.out,wV hlt]
    have q1:decide ((i:Int)<(j:Int))=false:=by simp;omega
    have hx:=HX.out;have hfin:=uK.out;have bVb:(N:Int)-(i:Int)=(fin:Int):=by omega
    have hfi:mid≤fin∧fin≤b∧(mid<fin↔i<m):=by omega
    clear hr HO hfin;by_cases c6:i<m
    · by_cases c8:a<i
      · by_cases c10:fin<b
        · have d0:decide ((i:Int)<(m:Int))=true:=by simp<;>omega
          have d1:decide ((m:Int)<(fin:Int))=true:=by simp<;>omega
          have d2:decide ((a:Int)<(i:Int))=true:=by simp<;>omega
          have d3:decide ((i:Int)<(mid:Int))=true:=by simp<;>omega
          have d4:decide ((mid:Int)<(fin:Int))=true:=by simp<;>omega
          have d5:decide ((fin:Int)<(b:Int))=true:=by simp<;>omega
          rw[aDl (by omega) (by omega),aDk (by omega) (by omega),sU (by omega) (by omega)] at HL;have HG:=zh (show (rotate l i m fin).length=n∧aM (rotate l i m fin) from⟨by rw[dG];exact HN.out,HF.out.rotate _ _ _⟩);have e0:i<m∧m<fin:=by omega
          have e1:a<i∧i<mid:=by omega
          have e2:mid<fin∧fin<b:=by omega
          have eb:fin≤b:=by omega
          clear hx hfi;go_wp2_with fail;refine(iA g off cap n i m fin _ _ _ rfl rfl rfl _ pre post l wr HN.out hrow (by omega) (by omega) (by omega) hlen).mono ?_;rintro e w1 ⟨rfl,hr1,ho1⟩;have jX:=ho.trans ho1;clear hrow ho ho1;go_wp2_with fail;refine(HI.out a i mid _ _ _ (rotate l i m fin) w1 rfl rfl rfl HG.out.1 hr1 HG.out.2 (by omega) (by omega) (by omega) (by omega) (HC.out.oth jX)).mono ?_;rintro e w2 ⟨rfl,hr2,ho2⟩;have hO2:=jX.trans ho2;clear hr1 jX ho2;go_wp2_with fail;have HG2:=zh (show (gH c f a i mid (rotate l i m fin)).length=n∧aM (gH c f a i mid (rotate l i m fin)) from⟨by rw[kR];exact HG.out.1,HG.out.2.gH _ _ _ _ _⟩);refine(HI.out mid fin b _ _ _ (gH c f a i mid (rotate l i m fin)) w2 rfl rfl rfl HG2.out.1 hr2 HG2.out.2 (by omega) (by omega) (by omega) (by omega) (HC.out.oth hO2)).mono ?_;rintro e w3 ⟨rfl,hr3,ho3⟩;have hO3:=hO2.trans ho3;clear hr2 hO2 ho3;go_wp2_with fail;all_goals (go_end0;rw[HL.out];exact⟨rfl,hr3,hO3⟩)
        · have d0:decide ((i:Int)<(m:Int))=true:=by simp<;>omega
          have d1:decide ((m:Int)<(fin:Int))=true:=by simp<;>omega
          have d2:decide ((a:Int)<(i:Int))=true:=by simp<;>omega
          have d3:decide ((i:Int)<(mid:Int))=true:=by simp<;>omega
          have d4:decide ((mid:Int)<(fin:Int))=true:=by simp<;>omega
          have d5:decide ((fin:Int)<(b:Int))=false:=by simp<;>omega
          rw[vT (by omega),aDk (by omega) (by omega),sU (by omega) (by omega)] at HL;have HG:=zh (show (rotate l i m fin).length=n∧aM (rotate l i m fin) from⟨by rw[dG];exact HN.out,HF.out.rotate _ _ _⟩);have e0:i<m∧m<fin:=by omega
          have e1:a<i∧i<mid:=by omega
          have eb:fin≤b:=by omega
          clear hx hfi;go_wp2_with fail;refine(iA g off cap n i m fin _ _ _ rfl rfl rfl _ pre post l wr HN.out hrow (by omega) (by omega) (by omega) hlen).mono ?_;rintro e w1 ⟨rfl,hr1,ho1⟩;have jX:=ho.trans ho1;clear hrow ho ho1;go_wp2_with fail;refine(HI.out a i mid _ _ _ (rotate l i m fin) w1 rfl rfl rfl HG.out.1 hr1 HG.out.2 (by omega) (by omega) (by omega) (by omega) (HC.out.oth jX)).mono ?_;rintro e w2 ⟨rfl,hr2,ho2⟩;have hO2:=jX.trans ho2;clear hr1 jX ho2;go_wp2_with fail;all_goals (go_end0;rw[HL.out];exact⟨rfl,hr2,hO2⟩)
      · by_cases c10:fin<b
        · have d0:decide ((i:Int)<(m:Int))=true:=by simp<;>omega
          have d1:decide ((m:Int)<(fin:Int))=true:=by simp<;>omega
          have d2:decide ((a:Int)<(i:Int))=false:=by simp<;>omega
          have d3:decide ((mid:Int)<(fin:Int))=true:=by simp<;>omega
          have d4:decide ((fin:Int)<(b:Int))=true:=by simp<;>omega
          rw[aDl (by omega) (by omega),vS (by omega),sU (by omega) (by omega)] at HL;have HG:=zh (show (rotate l i m fin).length=n∧aM (rotate l i m fin) from⟨by rw[dG];exact HN.out,HF.out.rotate _ _ _⟩);have e0:i<m∧m<fin:=by omega
          have e1:mid<fin∧fin<b:=by omega
          have eb:fin≤b:=by omega
          clear hx hfi;go_wp2_with fail;refine(iA g off cap n i m fin _ _ _ rfl rfl rfl _ pre post l wr HN.out hrow (by omega) (by omega) (by omega) hlen).mono ?_;rintro e w1 ⟨rfl,hr1,ho1⟩;have jX:=ho.trans ho1;clear hrow ho ho1;go_wp2_with fail;refine(HI.out mid fin b _ _ _ (rotate l i m fin) w1 rfl rfl rfl HG.out.1 hr1 HG.out.2 (by omega) (by omega) (by omega) (by omega) (HC.out.oth jX)).mono ?_;rintro e w3 ⟨rfl,hr3,ho3⟩;have hO3:=jX.trans ho3;clear hr1 jX ho3;go_wp2_with fail;all_goals (go_end0;rw[HL.out];exact⟨rfl,hr3,hO3⟩)
        · have d0:decide ((i:Int)<(m:Int))=true:=by simp<;>omega
          have d1:decide ((m:Int)<(fin:Int))=true:=by simp<;>omega
          have d2:decide ((a:Int)<(i:Int))=false:=by simp<;>omega
          have d3:decide ((mid:Int)<(fin:Int))=true:=by simp<;>omega
          have d4:decide ((fin:Int)<(b:Int))=false:=by simp<;>omega
          rw[vT (by omega),vS (by omega),sU (by omega) (by omega)] at HL;have HG:=zh (show (rotate l i m fin).length=n∧aM (rotate l i m fin) from⟨by rw[dG];exact HN.out,HF.out.rotate _ _ _⟩);have e0:i<m∧m<fin:=by omega
          have eb:fin≤b:=by omega
          clear hx hfi;go_wp2_with fail;refine(iA g off cap n i m fin _ _ _ rfl rfl rfl _ pre post l wr HN.out hrow (by omega) (by omega) (by omega) hlen).mono ?_;rintro e w1 ⟨rfl,hr1,ho1⟩;have jX:=ho.trans ho1;clear hrow ho ho1;go_wp2_with fail;all_goals (go_end0;rw[HL.out];exact⟨rfl,hr1,jX⟩)
    · by_cases c8:i<mid
      · have d0:decide ((i:Int)<(m:Int))=false:=by simp<;>omega
        have d1:decide ((a:Int)<(i:Int))=true:=by simp<;>omega
        have d2:decide ((i:Int)<(mid:Int))=true:=by simp<;>omega
        have d3:decide ((mid:Int)<(fin:Int))=false:=by simp<;>omega
        rw[vT (by omega),aDk (by omega) (by omega),aIh (by omega)] at HL;have HG:=zh (show (l).length=n∧aM (l) from⟨by exact HN.out,HF.out⟩);have e0:a<i∧i<mid:=by omega
        have eb:fin≤b:=by omega
        clear hx hfi;go_wp2_with fail;refine(HI.out a i mid _ _ _ (l) wr rfl rfl rfl HG.out.1 hrow HG.out.2 (by omega) (by omega) (by omega) (by omega) (HC.out.oth ho)).mono ?_;rintro e w2 ⟨rfl,hr2,ho2⟩;have hO2:=ho.trans ho2;clear hrow ho ho2;go_wp2_with fail;all_goals (go_end0;rw[HL.out];exact⟨rfl,hr2,hO2⟩)
      · have d0:decide ((i:Int)<(m:Int))=false:=by simp<;>omega
        have d1:decide ((a:Int)<(i:Int))=true:=by simp<;>omega
        have d2:decide ((i:Int)<(mid:Int))=false:=by simp<;>omega
        have d3:decide ((mid:Int)<(fin:Int))=false:=by simp<;>omega
        rw[vT (by omega),vS (by omega),aIh (by omega)] at HL;have HG:=zh (show (l).length=n∧aM (l) from⟨by exact HN.out,HF.out⟩);have eb:fin≤b:=by omega
        clear hx hfi;go_wp2_with fail;all_goals (go_end0;rw[HL.out];exact⟨rfl,hrow,ho⟩)
theorem aQj (c:Int→Int) (g off bx cap n:Nat) (pre post:List Value) (hlen:n≤4194304) (f:Nat):bBh c g off bx cap n pre post f:=by
 induction f with
 | zero=>intro a m b x y z l w _ _ _ _ _ _ h1 h2 _ h3 _;omega
 | succ f ih =>
  intro a m b x y z l w hx hy hz hn hr hf ham hmb hb hfu hc;by_cases h1:m=a+1
  · rw[show gH c (f+1) a m b l=upS (half (fun h=>decide (c (l.getD h 0)<c (l.getD a 0))) (b-m) m b-1-a) a l by rw[gH,if_pos (by omega)]];exact aPj c g off bx cap n a m b x y z hx hy hz pre post l w hn hr hf h1 hmb hb hlen hc
  by_cases h2:b=m+1
  · rw[show gH c (f+1) a m b l=dnS (m-half (fun h=>!decide (c (l.getD m 0)<c (l.getD h 0))) (m-a) a m) m l by rw[gH,if_neg (by omega),if_pos (by omega)]];exact aPk c g off bx cap n a m b x y z hx hy hz pre post l w hn hr hf (by omega) h2 hb hlen hc
  subst hx hy hz;by_cases h3:(a+b) / 2<m
  · exact bIr c g off bx cap n pre post hlen f ih a m b _ l w hn hr hf (by omega) (by omega) hb hfu hc rfl h3
  · exact bIt c g off bx cap n pre post hlen f ih a m b _ l w hn hr hf (by omega) (by omega) hb hfu hc rfl (by omega)
