import Derived.Test.YtcgnajeenflfaaaGreatDoorP8
set_option maxRecDepth 100000
set_option maxHeartbeats 4000000
set_option linter.all false
open Go.Proofs.Tryz Go.RowKit
namespace Go.Proofs.YtcgnajeenflfaaaGreatDoor
section
def kT (b:Nat) (s:ByteArray) (a:Nat) (w:World) (e:Ending) (w':World):Prop :=
 match dL s.toList a with
 | .error p=>e=aRv p∧Mv b w w'
 | .ok (k,below,f)=>e=.returned (.tuple #[.int .i64 k,.bool below])∧Rd w' b s f∧Mv b w w'
theorem xA (s:ByteArray) (a:Nat) (h:a<s.size):s.toList[a]?=some s[a]:=by
 rw[Lib.toList_data,List.getElem?_eq_getElem (by simpa using h)];rfl
theorem aIm (s:ByteArray) (a:Nat) (h:¬ a<s.size):s.toList[a]?=none :=
 List.getElem?_eq_none (by rw[aD];omega)
theorem pU {b:Nat} {s:ByteArray} {a:Nat} {w w':World} {p:Nat} {x:Int} (h:dL s.toList a=.error p) (hx:x=p) (hm:Mv b w w'):kT b s a w (aRv x) w':=by
 unfold kT;rw[h,hx];exact⟨rfl,hm⟩
theorem uI {b:Nat} {s:ByteArray} {a:Nat} {w w':World} {k f:Nat} {below:Bool} {x:Int} (h:dL s.toList a=.ok (k,below,f)) (hx:x=k) (hr:Rd w' b s f) (hm:Mv b w w') :
 kT b s a w (.returned (.tuple #[.int .i64 x,.bool below])) w':=by
 unfold kT;rw[h,hx];exact⟨rfl,hr,hm⟩
theorem aZe (b:Nat) (s:ByteArray) (a:Nat) (w:World) (hr:Rd w b s a) (ha:a≤s.size) (hs:s.size≤9223372036854775807) :
 Calls prog 169 #[.pointer (some ⟨b,0,none⟩)] w (kT b s a w):=by
 by_cases h0:a<s.size
 · have E0:=xA s a h0;have hb:=s[a].toNat_lt;by_cases fK:s[a].toNat=255
   · have q1:((s[a].toNat:Int)==255)=true:=by simp[fK]
     by_cases h1:a+1<s.size
     · have E1:=xA s (a+1) h1;have hn:=s[a+1].toNat_lt;by_cases hg:126<s[a+1].toNat
       · have q2:decide ((126:Int)<(s[a+1].toNat:Int))=true:=by simp;omega
         have hE:=zh (show dL s.toList a=.ok (s[a+1].toNat,false,a+2) by simp[dL,E0,E1,fK,hg]);clear E0 E1 fK hg;go_enter func169,ntmps169;go_wp2_with fail;refine(gV b s a _ hr h0 hs).mono ?_;rintro e w1 ⟨rfl,hr1,hm1⟩;go_wp2_with fail;refine(gV b s (a+1) _ hr1 h1 hs).mono ?_;rintro e w2 ⟨rfl,hr2,hm2⟩;have c1:w2.cell? ⟨b,1,none⟩=some (.int .i64 ((a+1+1:Nat):Int)):=hr2.cell 1;go_wp2_with fail;refine(iN _ _).mono ?_;rintro e w3 ⟨rfl,rfl⟩;go_wp2
         go_ret2
         exact uI hE.out rfl hr2 (hm1.trans hm2)
       · have q2:decide ((126:Int)<(s[a+1].toNat:Int))=false:=by simp;omega
         have hE:=zh (show dL s.toList a=.error (a+1) by simp[dL,E0,E1,fK,hg]);clear E0 E1 fK hg;go_enter func169,ntmps169;go_wp2_with fail;refine(gV b s a _ hr h0 hs).mono ?_;rintro e w1 ⟨rfl,hr1,hm1⟩;go_wp2_with fail;refine(gV b s (a+1) _ hr1 h1 hs).mono ?_;rintro e w2 ⟨rfl,hr2,hm2⟩;have c1:w2.cell? ⟨b,1,none⟩=some (.int .i64 ((a+1+1:Nat):Int)):=hr2.cell 1;go_wp2_with fail;refine(tZ _ _).mono ?_;rintro e w3 ⟨rfl,rfl⟩;exact⟨rfl,pU hE.out (by omega) (hm1.trans hm2)⟩
     · have hE:=zh (show dL s.toList a=.error s.toList.length by simp[dL,E0,aIm s (a+1) h1,fK]);have hsz:s.size=a+1:=by omega
       clear E0 fK;go_enter func169,ntmps169;go_wp2_with fail;refine(gV b s a _ hr h0 hs).mono ?_;rintro e w1 ⟨rfl,hr1,hm1⟩;rw[← hsz] at hr1;go_wp2_with fail;refine(aBb b s _ hr1 hs).mono ?_;rintro e w2 ⟨rfl,hm2⟩;exact⟨rfl,pU hE.out (by rw[aD]) (hm1.trans hm2)⟩
   · have q1:((s[a].toNat:Int)==255)=false:=by simp;omega
     by_cases h128:128≤s[a].toNat
     · have q2:decide ((128:Int)≤(s[a].toNat:Int))=true:=by simp;omega
       have hE:=zh (show dL s.toList a=.ok (s[a].toNat-128,false,a+1) by simp[dL,E0,fK,h128]);have hge:(128:Int)≤(s[a].toNat:Int):=by omega
       clear E0 fK h128;go_enter func169,ntmps169;go_wp2_with fail;refine(gV b s a _ hr h0 hs).mono ?_;rintro e w1 ⟨rfl,hr1,hm1⟩;go_wp2
       go_ret2
       exact uI hE.out (by omega) hr1 hm1
     · have q2:decide ((128:Int)≤(s[a].toNat:Int))=false:=by simp;omega
       by_cases h2:2≤s[a].toNat
       · have q3:decide ((2:Int)≤(s[a].toNat:Int))=true:=by simp;omega
         have hE:=zh (show dL s.toList a=.ok (128-s[a].toNat,true,a+1) by simp[dL,E0,fK,h128,h2]);have hge:¬ (128:Int)≤(s[a].toNat:Int):=by omega
         clear E0 fK h128 h2;go_enter func169,ntmps169;go_wp2_with fail;refine(gV b s a _ hr h0 hs).mono ?_;rintro e w1 ⟨rfl,hr1,hm1⟩;go_wp2
         go_ret2
         exact uI hE.out (by omega) hr1 hm1
       · have q3:decide ((2:Int)≤(s[a].toNat:Int))=false:=by simp;omega
         by_cases h1b:s[a].toNat=1
         · have q4:((s[a].toNat:Int)==1)=true:=by simp[h1b]
           by_cases h1:a+1<s.size
           · have E1:=xA s (a+1) h1;have hn:=s[a+1].toNat_lt;by_cases hg:126<255-s[a+1].toNat
             · have q5:decide ((126:Int)<255-(s[a+1].toNat:Int))=true:=by simp;omega
               have hE:=zh (show dL s.toList a=.ok (255-s[a+1].toNat,true,a+2) by simp[dL,E0,E1,h1b,hg]);have hgt:(126:Int)<255-(s[a+1].toNat:Int):=by omega
               clear E0 E1 fK hg h128 h2 h1b;go_enter func169,ntmps169;go_wp2_with fail;refine(gV b s a _ hr h0 hs).mono ?_;rintro e w1 ⟨rfl,hr1,hm1⟩;have d1:w1.cell? ⟨b,1,none⟩=some (.int .i64 ((a+1:Nat):Int)):=hr1.cell 1;go_wp2_with fail;refine(iN _ _).mono ?_;rintro e w2 ⟨rfl,rfl⟩;go_wp2_with fail;refine(gV b s (a+1) _ hr1 h1 hs).mono ?_;rintro e w2 ⟨rfl,hr2,hm2⟩;have c1:w2.cell? ⟨b,1,none⟩=some (.int .i64 ((a+1+1:Nat):Int)):=hr2.cell 1;go_wp2_with fail;refine(iN _ _).mono ?_;rintro e w3 ⟨rfl,rfl⟩;go_wp2
               go_ret2
               exact uI hE.out (by omega) hr2 (hm1.trans hm2)
             · have q5:decide ((126:Int)<255-(s[a+1].toNat:Int))=false:=by simp;omega
               have hE:=zh (show dL s.toList a=.error (a+1) by simp[dL,E0,E1,h1b,hg]);clear E0 E1 fK hg h128 h2 h1b;go_enter func169,ntmps169;go_wp2_with fail;refine(gV b s a _ hr h0 hs).mono ?_;rintro e w1 ⟨rfl,hr1,hm1⟩;have d1:w1.cell? ⟨b,1,none⟩=some (.int .i64 ((a+1:Nat):Int)):=hr1.cell 1;go_wp2_with fail;refine(iN _ _).mono ?_;rintro e w2 ⟨rfl,rfl⟩;go_wp2_with fail;refine(gV b s (a+1) _ hr1 h1 hs).mono ?_;rintro e w2 ⟨rfl,hr2,hm2⟩;have c1:w2.cell? ⟨b,1,none⟩=some (.int .i64 ((a+1+1:Nat):Int)):=hr2.cell 1;go_wp2_with fail;refine(tZ _ _).mono ?_;rintro e w3 ⟨rfl,rfl⟩;exact⟨rfl,pU hE.out (by omega) (hm1.trans hm2)⟩
           · have hE:=zh (show dL s.toList a=.error s.toList.length by simp[dL,E0,aIm s (a+1) h1,h1b]);have hsz:s.size=a+1:=by omega
             clear E0 fK h128 h2 h1b;go_enter func169,ntmps169;go_wp2_with fail;refine(gV b s a _ hr h0 hs).mono ?_;rintro e w1 ⟨rfl,hr1,hm1⟩;have d1:w1.cell? ⟨b,1,none⟩=some (.int .i64 ((a+1:Nat):Int)):=hr1.cell 1;go_wp2_with fail;refine(iN _ _).mono ?_;rintro e w2 ⟨rfl,rfl⟩;rw[← hsz] at hr1;go_wp2_with fail;refine(aBb b s _ hr1 hs).mono ?_;rintro e w2 ⟨rfl,hm2⟩;exact⟨rfl,pU hE.out (by rw[aD]) (hm1.trans hm2)⟩
         · have q4:((s[a].toNat:Int)==1)=false:=by simp;omega
           have hE:=zh (show dL s.toList a=.error a by simp[dL,E0,fK,h128,h2,h1b]);clear E0 fK h128 h2 h1b;go_enter func169,ntmps169;go_wp2_with fail;refine(gV b s a _ hr h0 hs).mono ?_;rintro e w1 ⟨rfl,hr1,hm1⟩;have d1:w1.cell? ⟨b,1,none⟩=some (.int .i64 ((a+1:Nat):Int)):=hr1.cell 1;go_wp2_with fail;refine(tZ _ _).mono ?_;rintro e w2 ⟨rfl,rfl⟩;exact⟨rfl,pU hE.out (by omega) hm1⟩
 · have hE:=zh (show dL s.toList a=.error s.toList.length by simp[dL,aIm s a h0]);have hsz:s.size=a:=by omega
   rw[← hsz] at hr;go_enter func169,ntmps169;go_wp2_with fail;refine(aBb b s _ hr hs).mono ?_;rintro e w2 ⟨rfl,hm2⟩;exact⟨rfl,pU hE.out (by rw[aD]) hm2⟩
end
