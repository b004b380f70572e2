import Derived.LoopIn
import Derived.LoopNIn
import Derived.RangeFuncBound
import Derived.RangeFuncNested
import Derived.Shelf.RegionOpen
import Derived.Test.YtcgnajeenflfaaaGreatDoorP2
set_option maxRecDepth 100000
set_option maxHeartbeats 4000000
set_option linter.all false
open Go.Proofs.Tryz Go.RowKit
namespace Go.Proofs.YtcgnajeenflfaaaGreatDoor
namespace U
theorem iP {s:ByteArray} {k:Nat} (h:k<s.size):aZ s k=kQ s k s[k].toNat:=by unfold aZ mF;rw[if_pos h,dif_pos h]
theorem bBj (s:ByteArray) (k:Nat) (x:Int) (hx:(k:Int)=x) (w:World) (h:k<s.size) (hs:s.size≤4611686018427387904) (hc:s[k].toNat≤127) :
 Calls prog 109 #[.string s,.int .i64 x] w fun e w'=>e=.returned (.int .i64 (aZ s k:Int))∧w'=w:=by
 subst hx;have sn:dS s[k].toNat=1:=by unfold dS;(repeat' split)<;>omega
 have d0:(decide ((s[k].toNat:Int)≤127))=true:=by simp;omega
 have d1:(decide (194≤(s[k].toNat:Int)))=false:=by simp;omega
 have d2:(decide ((s[k].toNat:Int)≤223))=true:=by simp;omega
 have d3:(decide (224≤(s[k].toNat:Int)))=false:=by simp;omega
 have d4:(decide ((s[k].toNat:Int)≤239))=true:=by simp;omega
 have d5:(((s[k].toNat:Int)==224))=false:=by simp;omega
 have d6:(((s[k].toNat:Int)==237))=false:=by simp;omega
 have d7:(decide (240≤(s[k].toNat:Int)))=false:=by simp;omega
 have d8:(decide ((s[k].toNat:Int)≤244))=true:=by simp;omega
 have d9:(((s[k].toNat:Int)==240))=false:=by simp;omega
 have lD:(((s[k].toNat:Int)==244))=false:=by simp;omega
 have hv:aZ s k=1:=by rw[iP h];unfold kQ;simp[sn]
 clear sn hc;rw[hv];clear hv;go_enter func109,ntmps109;go_wp2_with fail;go_ret;exact⟨rfl,rfl⟩
theorem bBk (s:ByteArray) (k:Nat) (x:Int) (hx:(k:Int)=x) (w:World) (h:k<s.size) (hs:s.size≤4611686018427387904) (hb:194≤s[k].toNat) (hc:s[k].toNat≤223) :
 Calls prog 109 #[.string s,.int .i64 x] w fun e w'=>e=.returned (.int .i64 (aZ s k:Int))∧w'=w:=by
 subst hx;have sn:dS s[k].toNat=2:=by unfold dS;(repeat' split)<;>omega
 have sl:gD s[k].toNat=128:=by unfold gD;(repeat' split)<;>omega
 have sh:gF s[k].toNat=191:=by unfold gF;(repeat' split)<;>omega
 have d0:(decide ((s[k].toNat:Int)≤127))=false:=by simp;omega
 have d1:(decide (194≤(s[k].toNat:Int)))=true:=by simp;omega
 have d2:(decide ((s[k].toNat:Int)≤223))=true:=by simp;omega
 have d3:(decide (224≤(s[k].toNat:Int)))=false:=by simp;omega
 have d4:(decide ((s[k].toNat:Int)≤239))=true:=by simp;omega
 have d5:(((s[k].toNat:Int)==224))=false:=by simp;omega
 have d6:(((s[k].toNat:Int)==237))=false:=by simp;omega
 have d7:(decide (240≤(s[k].toNat:Int)))=false:=by simp;omega
 have d8:(decide ((s[k].toNat:Int)≤244))=true:=by simp;omega
 have d9:(((s[k].toNat:Int)==240))=false:=by simp;omega
 have lD:(((s[k].toNat:Int)==244))=false:=by simp;omega
 have hv:aZ s k=if dI s (k+1) 128 191 then (2) else 0:=by rw[iP h];unfold kQ;simp[sn,sl,sh]
 clear sn sl sh hb hc;have HV:=zh hv;clear hv;go_enter func109,ntmps109;go_wp2_with fail;refine(bP s (k+1) _ (by omega) 128 191 _ _ rfl rfl _).mono ?_;rintro e w1 ⟨rfl,rfl⟩;cases hB1:dI s (k+1) 128 191
 · have HW:=zh (show aZ s k=0 by rw[HV.out];simp[hB1]);clear HV;go_wp2_with fail;go_ret;exact⟨by rw[HW.out];rfl,rfl⟩
 · go_wp2_with fail;refine wp_loop_rounds 1 ?_;rw[rounds_succ];have HW:=zh (show aZ s k=2 by rw[HV.out];simp[hB1]);clear HV;go_wp2_with fail;go_ret;exact⟨by rw[HW.out];rfl,rfl⟩
theorem bEl (s:ByteArray) (k:Nat) (x:Int) (hx:(k:Int)=x) (w:World) (h:k<s.size) (hs:s.size≤4611686018427387904) (hb:s[k].toNat=224) :
 Calls prog 109 #[.string s,.int .i64 x] w fun e w'=>e=.returned (.int .i64 (aZ s k:Int))∧w'=w:=by
 subst hx;have sn:dS s[k].toNat=3:=by unfold dS;(repeat' split)<;>omega
 have sl:gD s[k].toNat=160:=by unfold gD;(repeat' split)<;>omega
 have sh:gF s[k].toNat=191:=by unfold gF;(repeat' split)<;>omega
 have d0:(decide ((s[k].toNat:Int)≤127))=false:=by simp;omega
 have d1:(decide (194≤(s[k].toNat:Int)))=true:=by simp;omega
 have d2:(decide ((s[k].toNat:Int)≤223))=false:=by simp;omega
 have d3:(decide (224≤(s[k].toNat:Int)))=true:=by simp;omega
 have d4:(decide ((s[k].toNat:Int)≤239))=true:=by simp;omega
 have d5:(((s[k].toNat:Int)==224))=true:=by simp;omega
 have d6:(((s[k].toNat:Int)==237))=false:=by simp;omega
 have d7:(decide (240≤(s[k].toNat:Int)))=false:=by simp;omega
 have d8:(decide ((s[k].toNat:Int)≤244))=true:=by simp;omega
 have d9:(((s[k].toNat:Int)==240))=false:=by simp;omega
 have lD:(((s[k].toNat:Int)==244))=false:=by simp;omega
 have hv:aZ s k=if dI s (k+1) 160 191 then (if dI s (k+2) 128 191 then 3 else 0) else 0:=by rw[iP h];unfold kQ;simp[sn,sl,sh]
 clear sn sl sh hb;have HV:=zh hv;clear hv;go_enter func109,ntmps109;go_wp2_with fail;refine(bP s (k+1) _ (by omega) 160 191 _ _ rfl rfl _).mono ?_;rintro e w1 ⟨rfl,rfl⟩;cases hB1:dI s (k+1) 160 191
 · have HW:=zh (show aZ s k=0 by rw[HV.out];simp[hB1]);clear HV;go_wp2_with fail;go_ret;exact⟨by rw[HW.out];rfl,rfl⟩
 · go_wp2_with fail;refine wp_loop_rounds 2 ?_;rw[rounds_succ];go_wp2_with fail;refine(bP s (k+2) _ (by omega) 128 191 _ _ rfl rfl _).mono ?_;rintro e w2 ⟨rfl,rfl⟩;cases hB2:dI s (k+2) 128 191
   · have HW:=zh (show aZ s k=0 by rw[HV.out];simp[hB1,hB2]);clear HV;go_wp2_with fail;go_ret;exact⟨by rw[HW.out];rfl,rfl⟩
   · go_wp2_with fail;rw[rounds_succ];have HW:=zh (show aZ s k=3 by rw[HV.out];simp[hB1,hB2]);clear HV;go_wp2_with fail;go_ret;exact⟨by rw[HW.out];rfl,rfl⟩
theorem bEm (s:ByteArray) (k:Nat) (x:Int) (hx:(k:Int)=x) (w:World) (h:k<s.size) (hs:s.size≤4611686018427387904) (hb:s[k].toNat=237) :
 Calls prog 109 #[.string s,.int .i64 x] w fun e w'=>e=.returned (.int .i64 (aZ s k:Int))∧w'=w:=by
 subst hx;have sn:dS s[k].toNat=3:=by unfold dS;(repeat' split)<;>omega
 have sl:gD s[k].toNat=128:=by unfold gD;(repeat' split)<;>omega
 have sh:gF s[k].toNat=159:=by unfold gF;(repeat' split)<;>omega
 have d0:(decide ((s[k].toNat:Int)≤127))=false:=by simp;omega
 have d1:(decide (194≤(s[k].toNat:Int)))=true:=by simp;omega
 have d2:(decide ((s[k].toNat:Int)≤223))=false:=by simp;omega
 have d3:(decide (224≤(s[k].toNat:Int)))=true:=by simp;omega
 have d4:(decide ((s[k].toNat:Int)≤239))=true:=by simp;omega
 have d5:(((s[k].toNat:Int)==224))=false:=by simp;omega
 have d6:(((s[k].toNat:Int)==237))=true:=by simp;omega
 have d7:(decide (240≤(s[k].toNat:Int)))=false:=by simp;omega
 have d8:(decide ((s[k].toNat:Int)≤244))=true:=by simp;omega
 have d9:(((s[k].toNat:Int)==240))=false:=by simp;omega
 have lD:(((s[k].toNat:Int)==244))=false:=by simp;omega
 have hv:aZ s k=if dI s (k+1) 128 159 then (if dI s (k+2) 128 191 then 3 else 0) else 0:=by rw[iP h];unfold kQ;simp[sn,sl,sh]
 clear sn sl sh hb;have HV:=zh hv;clear hv;go_enter func109,ntmps109;go_wp2_with fail;refine(bP s (k+1) _ (by omega) 128 159 _ _ rfl rfl _).mono ?_;rintro e w1 ⟨rfl,rfl⟩;cases hB1:dI s (k+1) 128 159
 · have HW:=zh (show aZ s k=0 by rw[HV.out];simp[hB1]);clear HV;go_wp2_with fail;go_ret;exact⟨by rw[HW.out];rfl,rfl⟩
 · go_wp2_with fail;refine wp_loop_rounds 2 ?_;rw[rounds_succ];go_wp2_with fail;refine(bP s (k+2) _ (by omega) 128 191 _ _ rfl rfl _).mono ?_;rintro e w2 ⟨rfl,rfl⟩;cases hB2:dI s (k+2) 128 191
   · have HW:=zh (show aZ s k=0 by rw[HV.out];simp[hB1,hB2]);clear HV;go_wp2_with fail;go_ret;exact⟨by rw[HW.out];rfl,rfl⟩
   · go_wp2_with fail;rw[rounds_succ];have HW:=zh (show aZ s k=3 by rw[HV.out];simp[hB1,hB2]);clear HV;go_wp2_with fail;go_ret;exact⟨by rw[HW.out];rfl,rfl⟩
theorem aQf (s:ByteArray) (k:Nat) (x:Int) (hx:(k:Int)=x) (w:World) (h:k<s.size) (hs:s.size≤4611686018427387904) (hb:225≤s[k].toNat) (hc:s[k].toNat≤239) (hn0:s[k].toNat≠237) :
 Calls prog 109 #[.string s,.int .i64 x] w fun e w'=>e=.returned (.int .i64 (aZ s k:Int))∧w'=w:=by
 subst hx;have sn:dS s[k].toNat=3:=by unfold dS;(repeat' split)<;>omega
 have sl:gD s[k].toNat=128:=by unfold gD;(repeat' split)<;>omega
 have sh:gF s[k].toNat=191:=by unfold gF;(repeat' split)<;>omega
 have d0:(decide ((s[k].toNat:Int)≤127))=false:=by simp;omega
 have d1:(decide (194≤(s[k].toNat:Int)))=true:=by simp;omega
 have d2:(decide ((s[k].toNat:Int)≤223))=false:=by simp;omega
 have d3:(decide (224≤(s[k].toNat:Int)))=true:=by simp;omega
 have d4:(decide ((s[k].toNat:Int)≤239))=true:=by simp;omega
 have d5:(((s[k].toNat:Int)==224))=false:=by simp;omega
 have d6:(((s[k].toNat:Int)==237))=false:=by simp;omega
 have d7:(decide (240≤(s[k].toNat:Int)))=false:=by simp;omega
 have d8:(decide ((s[k].toNat:Int)≤244))=true:=by simp;omega
 have d9:(((s[k].toNat:Int)==240))=false:=by simp;omega
 have lD:(((s[k].toNat:Int)==244))=false:=by simp;omega
 have hv:aZ s k=if dI s (k+1) 128 191 then (if dI s (k+2) 128 191 then 3 else 0) else 0:=by rw[iP h];unfold kQ;simp[sn,sl,sh]
 clear sn sl sh hb hc hn0;have HV:=zh hv;clear hv;go_enter func109,ntmps109;go_wp2_with fail;refine(bP s (k+1) _ (by omega) 128 191 _ _ rfl rfl _).mono ?_;rintro e w1 ⟨rfl,rfl⟩;cases hB1:dI s (k+1) 128 191
 · have HW:=zh (show aZ s k=0 by rw[HV.out];simp[hB1]);clear HV;go_wp2_with fail;go_ret;exact⟨by rw[HW.out];rfl,rfl⟩
 · go_wp2_with fail;refine wp_loop_rounds 2 ?_;rw[rounds_succ];go_wp2_with fail;refine(bP s (k+2) _ (by omega) 128 191 _ _ rfl rfl _).mono ?_;rintro e w2 ⟨rfl,rfl⟩;cases hB2:dI s (k+2) 128 191
   · have HW:=zh (show aZ s k=0 by rw[HV.out];simp[hB1,hB2]);clear HV;go_wp2_with fail;go_ret;exact⟨by rw[HW.out];rfl,rfl⟩
   · go_wp2_with fail;rw[rounds_succ];have HW:=zh (show aZ s k=3 by rw[HV.out];simp[hB1,hB2]);clear HV;go_wp2_with fail;go_ret;exact⟨by rw[HW.out];rfl,rfl⟩
theorem bEn (s:ByteArray) (k:Nat) (x:Int) (hx:(k:Int)=x) (w:World) (h:k<s.size) (hs:s.size≤4611686018427387904) (hb:s[k].toNat=240) :
 Calls prog 109 #[.string s,.int .i64 x] w fun e w'=>e=.returned (.int .i64 (aZ s k:Int))∧w'=w:=by
 subst hx;have sn:dS s[k].toNat=4:=by unfold dS;(repeat' split)<;>omega
 have sl:gD s[k].toNat=144:=by unfold gD;(repeat' split)<;>omega
 have sh:gF s[k].toNat=191:=by unfold gF;(repeat' split)<;>omega
 have d0:(decide ((s[k].toNat:Int)≤127))=false:=by simp;omega
 have d1:(decide (194≤(s[k].toNat:Int)))=true:=by simp;omega
 have d2:(decide ((s[k].toNat:Int)≤223))=false:=by simp;omega
 have d3:(decide (224≤(s[k].toNat:Int)))=true:=by simp;omega
 have d4:(decide ((s[k].toNat:Int)≤239))=false:=by simp;omega
 have d5:(((s[k].toNat:Int)==224))=false:=by simp;omega
 have d6:(((s[k].toNat:Int)==237))=false:=by simp;omega
 have d7:(decide (240≤(s[k].toNat:Int)))=true:=by simp;omega
 have d8:(decide ((s[k].toNat:Int)≤244))=true:=by simp;omega
 have d9:(((s[k].toNat:Int)==240))=true:=by simp;omega
 have lD:(((s[k].toNat:Int)==244))=false:=by simp;omega
 have hv:aZ s k=if dI s (k+1) 144 191 then (if dI s (k+2) 128 191 then (if dI s (k+3) 128 191 then 4 else 0) else 0) else 0:=by rw[iP h];unfold kQ;simp[sn,sl,sh]
 clear sn sl sh hb;have HV:=zh hv;clear hv;go_enter func109,ntmps109;go_wp2_with fail;refine(bP s (k+1) _ (by omega) 144 191 _ _ rfl rfl _).mono ?_;rintro e w1 ⟨rfl,rfl⟩;cases hB1:dI s (k+1) 144 191
 · have HW:=zh (show aZ s k=0 by rw[HV.out];simp[hB1]);clear HV;go_wp2_with fail;go_ret;exact⟨by rw[HW.out];rfl,rfl⟩
 · go_wp2_with fail;refine wp_loop_rounds 3 ?_;rw[rounds_succ];go_wp2_with fail;refine(bP s (k+2) _ (by omega) 128 191 _ _ rfl rfl _).mono ?_;rintro e w2 ⟨rfl,rfl⟩;cases hB2:dI s (k+2) 128 191
   · have HW:=zh (show aZ s k=0 by rw[HV.out];simp[hB1,hB2]);clear HV;go_wp2_with fail;go_ret;exact⟨by rw[HW.out];rfl,rfl⟩
   · go_wp2_with fail;rw[rounds_succ];go_wp2_with fail;refine(bP s (k+3) _ (by omega) 128 191 _ _ rfl rfl _).mono ?_;rintro e w3 ⟨rfl,rfl⟩;cases hB3:dI s (k+3) 128 191
     · have HW:=zh (show aZ s k=0 by rw[HV.out];simp[hB1,hB2,hB3]);clear HV;go_wp2_with fail;go_ret;exact⟨by rw[HW.out];rfl,rfl⟩
     · go_wp2_with fail;rw[rounds_succ];have HW:=zh (show aZ s k=4 by rw[HV.out];simp[hB1,hB2,hB3]);clear HV;go_wp2_with fail;go_ret;exact⟨by rw[HW.out];rfl,rfl⟩
theorem bEo (s:ByteArray) (k:Nat) (x:Int) (hx:(k:Int)=x) (w:World) (h:k<s.size) (hs:s.size≤4611686018427387904) (hb:s[k].toNat=244) :
 Calls prog 109 #[.string s,.int .i64 x] w fun e w'=>e=.returned (.int .i64 (aZ s k:Int))∧w'=w:=by
 subst hx;have sn:dS s[k].toNat=4:=by unfold dS;(repeat' split)<;>omega
 have sl:gD s[k].toNat=128:=by unfold gD;(repeat' split)<;>omega
 have sh:gF s[k].toNat=143:=by unfold gF;(repeat' split)<;>omega
 have d0:(decide ((s[k].toNat:Int)≤127))=false:=by simp;omega
 have d1:(decide (194≤(s[k].toNat:Int)))=true:=by simp;omega
 have d2:(decide ((s[k].toNat:Int)≤223))=false:=by simp;omega
 have d3:(decide (224≤(s[k].toNat:Int)))=true:=by simp;omega
 have d4:(decide ((s[k].toNat:Int)≤239))=false:=by simp;omega
 have d5:(((s[k].toNat:Int)==224))=false:=by simp;omega
 have d6:(((s[k].toNat:Int)==237))=false:=by simp;omega
 have d7:(decide (240≤(s[k].toNat:Int)))=true:=by simp;omega
 have d8:(decide ((s[k].toNat:Int)≤244))=true:=by simp;omega
 have d9:(((s[k].toNat:Int)==240))=false:=by simp;omega
 have lD:(((s[k].toNat:Int)==244))=true:=by simp;omega
 have hv:aZ s k=if dI s (k+1) 128 143 then (if dI s (k+2) 128 191 then (if dI s (k+3) 128 191 then 4 else 0) else 0) else 0:=by rw[iP h];unfold kQ;simp[sn,sl,sh]
 clear sn sl sh hb;have HV:=zh hv;clear hv;go_enter func109,ntmps109;go_wp2_with fail;refine(bP s (k+1) _ (by omega) 128 143 _ _ rfl rfl _).mono ?_;rintro e w1 ⟨rfl,rfl⟩;cases hB1:dI s (k+1) 128 143
 · have HW:=zh (show aZ s k=0 by rw[HV.out];simp[hB1]);clear HV;go_wp2_with fail;go_ret;exact⟨by rw[HW.out];rfl,rfl⟩
 · go_wp2_with fail;refine wp_loop_rounds 3 ?_;rw[rounds_succ];go_wp2_with fail;refine(bP s (k+2) _ (by omega) 128 191 _ _ rfl rfl _).mono ?_;rintro e w2 ⟨rfl,rfl⟩;cases hB2:dI s (k+2) 128 191
   · have HW:=zh (show aZ s k=0 by rw[HV.out];simp[hB1,hB2]);clear HV;go_wp2_with fail;go_ret;exact⟨by rw[HW.out];rfl,rfl⟩
   · go_wp2_with fail;rw[rounds_succ];go_wp2_with fail;refine(bP s (k+3) _ (by omega) 128 191 _ _ rfl rfl _).mono ?_;rintro e w3 ⟨rfl,rfl⟩;cases hB3:dI s (k+3) 128 191
     · have HW:=zh (show aZ s k=0 by rw[HV.out];simp[hB1,hB2,hB3]);clear HV;go_wp2_with fail;go_ret;exact⟨by rw[HW.out];rfl,rfl⟩
     · go_wp2_with fail;rw[rounds_succ];have HW:=zh (show aZ s k=4 by rw[HV.out];simp[hB1,hB2,hB3]);clear HV;go_wp2_with fail;go_ret;exact⟨by rw[HW.out];rfl,rfl⟩
theorem aVx (s:ByteArray) (k:Nat) (x:Int) (hx:(k:Int)=x) (w:World) (h:k<s.size) (hs:s.size≤4611686018427387904) (hb:241≤s[k].toNat) (hc:s[k].toNat≤243) :
 Calls prog 109 #[.string s,.int .i64 x] w fun e w'=>e=.returned (.int .i64 (aZ s k:Int))∧w'=w:=by
 subst hx;have sn:dS s[k].toNat=4:=by unfold dS;(repeat' split)<;>omega
 have sl:gD s[k].toNat=128:=by unfold gD;(repeat' split)<;>omega
 have sh:gF s[k].toNat=191:=by unfold gF;(repeat' split)<;>omega
 have d0:(decide ((s[k].toNat:Int)≤127))=false:=by simp;omega
 have d1:(decide (194≤(s[k].toNat:Int)))=true:=by simp;omega
 have d2:(decide ((s[k].toNat:Int)≤223))=false:=by simp;omega
 have d3:(decide (224≤(s[k].toNat:Int)))=true:=by simp;omega
 have d4:(decide ((s[k].toNat:Int)≤239))=false:=by simp;omega
 have d5:(((s[k].toNat:Int)==224))=false:=by simp;omega
 have d6:(((s[k].toNat:Int)==237))=false:=by simp;omega
 have d7:(decide (240≤(s[k].toNat:Int)))=true:=by simp;omega
 have d8:(decide ((s[k].toNat:Int)≤244))=true:=by simp;omega
 have d9:(((s[k].toNat:Int)==240))=false:=by simp;omega
 have lD:(((s[k].toNat:Int)==244))=false:=by simp;omega
 have hv:aZ s k=if dI s (k+1) 128 191 then (if dI s (k+2) 128 191 then (if dI s (k+3) 128 191 then 4 else 0) else 0) else 0:=by rw[iP h];unfold kQ;simp[sn,sl,sh]
 clear sn sl sh hb hc;have HV:=zh hv;clear hv;go_enter func109,ntmps109;go_wp2_with fail;refine(bP s (k+1) _ (by omega) 128 191 _ _ rfl rfl _).mono ?_;rintro e w1 ⟨rfl,rfl⟩;cases hB1:dI s (k+1) 128 191
 · have HW:=zh (show aZ s k=0 by rw[HV.out];simp[hB1]);clear HV;go_wp2_with fail;go_ret;exact⟨by rw[HW.out];rfl,rfl⟩
 · go_wp2_with fail;refine wp_loop_rounds 3 ?_;rw[rounds_succ];go_wp2_with fail;refine(bP s (k+2) _ (by omega) 128 191 _ _ rfl rfl _).mono ?_;rintro e w2 ⟨rfl,rfl⟩;cases hB2:dI s (k+2) 128 191
   · have HW:=zh (show aZ s k=0 by rw[HV.out];simp[hB1,hB2]);clear HV;go_wp2_with fail;go_ret;exact⟨by rw[HW.out];rfl,rfl⟩
   · go_wp2_with fail;rw[rounds_succ];go_wp2_with fail;refine(bP s (k+3) _ (by omega) 128 191 _ _ rfl rfl _).mono ?_;rintro e w3 ⟨rfl,rfl⟩;cases hB3:dI s (k+3) 128 191
     · have HW:=zh (show aZ s k=0 by rw[HV.out];simp[hB1,hB2,hB3]);clear HV;go_wp2_with fail;go_ret;exact⟨by rw[HW.out];rfl,rfl⟩
     · go_wp2_with fail;rw[rounds_succ];have HW:=zh (show aZ s k=4 by rw[HV.out];simp[hB1,hB2,hB3]);clear HV;go_wp2_with fail;go_ret;exact⟨by rw[HW.out];rfl,rfl⟩
theorem bBl (s:ByteArray) (k:Nat) (x:Int) (hx:(k:Int)=x) (w:World) (h:k<s.size) (hs:s.size≤4611686018427387904) (hb:128≤s[k].toNat) (hc:s[k].toNat≤193) :
 Calls prog 109 #[.string s,.int .i64 x] w fun e w'=>e=.returned (.int .i64 (aZ s k:Int))∧w'=w:=by
 subst hx;have sn:dS s[k].toNat=0:=by unfold dS;(repeat' split)<;>omega
 have d0:(decide ((s[k].toNat:Int)≤127))=false:=by simp;omega
 have d1:(decide (194≤(s[k].toNat:Int)))=false:=by simp;omega
 have d2:(decide ((s[k].toNat:Int)≤223))=true:=by simp;omega
 have d3:(decide (224≤(s[k].toNat:Int)))=false:=by simp;omega
 have d4:(decide ((s[k].toNat:Int)≤239))=true:=by simp;omega
 have d5:(((s[k].toNat:Int)==224))=false:=by simp;omega
 have d6:(((s[k].toNat:Int)==237))=false:=by simp;omega
 have d7:(decide (240≤(s[k].toNat:Int)))=false:=by simp;omega
 have d8:(decide ((s[k].toNat:Int)≤244))=true:=by simp;omega
 have d9:(((s[k].toNat:Int)==240))=false:=by simp;omega
 have lD:(((s[k].toNat:Int)==244))=false:=by simp;omega
 have hv:aZ s k=0:=by rw[iP h];unfold kQ;simp[sn]
 clear sn hb hc;rw[hv];clear hv;go_enter func109,ntmps109;go_wp2_with fail;go_ret;exact⟨rfl,rfl⟩
theorem aVy (s:ByteArray) (k:Nat) (x:Int) (hx:(k:Int)=x) (w:World) (h:k<s.size) (hs:s.size≤4611686018427387904) (hb:245≤s[k].toNat) :
 Calls prog 109 #[.string s,.int .i64 x] w fun e w'=>e=.returned (.int .i64 (aZ s k:Int))∧w'=w:=by
 subst hx;have sn:dS s[k].toNat=0:=by unfold dS;(repeat' split)<;>omega
 have d0:(decide ((s[k].toNat:Int)≤127))=false:=by simp;omega
 have d1:(decide (194≤(s[k].toNat:Int)))=true:=by simp;omega
 have d2:(decide ((s[k].toNat:Int)≤223))=false:=by simp;omega
 have d3:(decide (224≤(s[k].toNat:Int)))=true:=by simp;omega
 have d4:(decide ((s[k].toNat:Int)≤239))=false:=by simp;omega
 have d5:(((s[k].toNat:Int)==224))=false:=by simp;omega
 have d6:(((s[k].toNat:Int)==237))=false:=by simp;omega
 have d7:(decide (240≤(s[k].toNat:Int)))=true:=by simp;omega
 have d8:(decide ((s[k].toNat:Int)≤244))=false:=by simp;omega
 have d9:(((s[k].toNat:Int)==240))=false:=by simp;omega
 have lD:(((s[k].toNat:Int)==244))=false:=by simp;omega
 have hv:aZ s k=0:=by rw[iP h];unfold kQ;simp[sn]
 clear sn hb;rw[hv];clear hv;go_enter func109,ntmps109;go_wp2_with fail;go_ret;exact⟨rfl,rfl⟩
theorem bBm (s:ByteArray) (k:Nat) (x:Int) (hx:(k:Int)=x) (w:World) (h:k<s.size) (hs:s.size≤4611686018427387904) :
 Calls prog 109 #[.string s,.int .i64 x] w fun e w'=>e=.returned (.int .i64 (aZ s k:Int))∧w'=w:=by
 by_cases h1:s[k].toNat≤127
 · exact bBj s k x hx w h hs h1
 by_cases h2:s[k].toNat≤193
 · exact bBl s k x hx w h hs (by omega) h2
 by_cases h3:s[k].toNat≤223
 · exact bBk s k x hx w h hs (by omega) h3
 by_cases h4:s[k].toNat=224
 · exact bEl s k x hx w h hs h4
 by_cases h5:s[k].toNat=237
 · exact bEm s k x hx w h hs h5
 by_cases h6:s[k].toNat≤239
 · exact aQf s k x hx w h hs (by omega) h6 h5
 by_cases h7:s[k].toNat=240
 · exact bEn s k x hx w h hs h7
 by_cases h8:s[k].toNat=244
 · exact bEo s k x hx w h hs h8
 by_cases h9:s[k].toNat≤243
 · exact aVx s k x hx w h hs (by omega) h9
 exact aVy s k x hx w h hs (by omega)
open Go.Shelf
attribute [local go_sem] Oper.semAt_some
def KpB (b:Nat) (W W':World):Prop:=W'.cell? ⟨b,0,none⟩=W.cell? ⟨b,0,none⟩
theorem bFa {b:Nat} {A B C:World} (h:KpB b A B) (k:KpB b B C):KpB b A C:=Eq.trans k h
theorem bFb {b:Nat} {w:World} (hb:b<w.heap.size) (W:World) (l:Nat) (o o':Obj) (hl:w.heap.size≤l) (h:W.heap[l]?=some o) (h1:o.isCells=false) (h2:o.isWalk=false):KpB b W (W.putObj l o') :=
 (belowK_b lr W l o o' hl h h1 h2).cell (p:=⟨b,0,none⟩) hb
theorem aMa (n:Int) (h₀:0≤n) (h₁:n<2 ^ 62):IntKind.i64.wrap n=n:=by rw[IntKind.wrap_i64];omega
theorem w64 (n:Nat) (h:n<4611686018427387904):wrap64 (n:Int)=(n:Int):=by unfold wrap64;omega
theorem aQg (b m:Nat) (hb:b<256):bits BinOp.and IntKind.i64 (wrap64 (b:Int)) (127 / 2 ^ m)=((b &&& (127 / 2 ^ m):Nat):Int):=by
 rw[w64 b (by omega)];have:=(bits_nat .i64 62 (by decide) aMa b (127 / 2 ^ m) (by omega) (Nat.lt_of_le_of_lt (Nat.div_le_self ..) (by decide))).1;rw[← this];congr 1
theorem aVz (p b:Nat) (hp:p<2 ^ 40) (hb:b<256) :
 bits BinOp.or IntKind.i64 (wrap64 ((p:Int)*64)) (wrap64 (bits BinOp.and IntKind.u8 (b:Int) 63))=((p*64 ||| (b &&& 63):Nat):Int):=by
 have h1:b &&& 63<64:=Nat.lt_of_le_of_lt Nat.and_le_right (by decide);rw[show bits BinOp.and IntKind.u8 (b:Int) 63=((b &&& 63:Nat):Int) from u8_and_nat b 63 hb (by decide),w64 _ (by omega),show ((p:Int)*64)=((p*64:Nat):Int) by simp,w64 _ (by omega)];exact(bits_nat .i64 62 (by decide) aMa (p*64) (b &&& 63) (by omega) (by omega)).2
theorem vU {s:ByteArray} {k:Nat} (h:k<s.size):mF s k=s[k].toNat:=by unfold mF;rw[dif_pos h]
theorem aWa (l Bs:Nat) (s:ByteArray) (hs:s.size≤4611686018427387904) (J Jx:List (Int×Int)→World→Prop)
 (hY:∀ pre x W,J pre W→pre.length<(items s).length→YieldAt Fence.wide 8 prog l #[.int .i64 x.1,.int .i64 x.2] W fun e W' =>
  (e=.returned (.bool true)∧J (pre++[x]) W'∧KpB Bs W W')∨(e=.returned (.bool false)∧Jx (pre++[x]) W'))
 (W:World) (hBs:W.cell? ⟨Bs,0,none⟩=some (.string s)) (h0:J [] W) :
 CallsIn Fence.wide 9 prog 108 #[.func (.yield l) #[] #[],.pointer (some ⟨Bs,0,none⟩)] W fun e W'=>(∃ v,e=.returned v) ∧
  ((∃ ys,ys=items s∧J ys W')∨(∃ pre,pre <+: items s∧Jx pre W')):=by
 refine callsIn_of_wp func108 rfl trivial ?_ rfl;simp only [ntmps108,List.size_toArray,List.length_cons,List.length_nil,Nat.reduceAdd,Nat.reduceSub,Array.replicate_succ,Array.replicate_zero,List.push_toArray,List.append_toArray,List.nil_append,List.cons_append];gi_wp2
 gi_loopw [3] (fun i wr=>∃ (k f:Nat) (pre:List (Int×Int)),k≤s.size∧i=.int .i64 k∧items s=pre++iH s f k∧s.size≤k+f∧J pre wr∧wr.cell? ⟨Bs,0,none⟩=some (.string s))
  (fun i _=>s.size-(intOf i).toNat)
 case atStart=>exact⟨0,s.size,[],Nat.zero_le _,rfl,rfl,by omega,h0,hBs⟩
 case round =>
  obtain⟨k,f,pre,hk,rfl,hpre,hf,hJ,hc⟩:=hrel;by_cases hlt:k<s.size
  · obtain⟨f,rfl⟩:∃ g,f=g+1:=⟨f-1,by omega⟩
    obtain⟨m,hm⟩:∃ m,aZ s k=m:=⟨_,rfl⟩
    have HM:=zh hm;gi_wp2
    refine⟨trivial,(callsIn_wide.2 (bBm s k _ rfl _ hlt hs)).mono ?_⟩;rintro e w1 ⟨rfl,rfl⟩;rw[hm];clear hm;by_cases hz:m=0
    · subst hz;obtain⟨fn,tmps,assign,body,hy,hR⟩:=hY _ ((k:Int),-1) _ hJ (by rw[hpre];simp[iH,hlt,HM.out]);dsimp only at hy
      have hlast:items s=pre++[((k:Int),-1)]:=by rw[hpre];simp[iH,hlt,HM.out]
      gi_wp2
      refine hR.mono ?_;rintro e W3 (⟨rfl,hJ3,hk3⟩ | ⟨rfl,hJx3⟩)
      · gi_wp2
        refine bodyPost_ret (results_none rfl _ _ _) rfl ?_;exact⟨⟨_,rfl⟩,.inl ⟨_,hlast.symm,hJ3⟩⟩
      · gi_wp2
        refine bodyPost_ret (results_none rfl _ _ _) rfl ?_;exact⟨⟨_,rfl⟩,.inr ⟨_,by rw[hlast];exact List.prefix_refl _,hJx3⟩⟩
    · have hin:=aWq (s:=s) (k:=k) (by rw[HM.out];exact hz);rw[HM.out] at hin;have hm4:m≤4:=by rw[← HM.out];exact aIs ..
      have ez:((m:Int)==0)=false:=by simp;omega
      have HI:=zh (show items s=pre++([((k:Int),(rD s k m:Int))]++iH s f (k+m)) by rw[hpre];simp[iH,hlt,HM.out,hz]);have HX:=zh (show pre++[((k:Int),(rD s k m:Int))] <+: items s by rw[HI.out,← List.append_assoc];exact List.prefix_append _ _);obtain⟨fn,tmps,assign,body,hy,hR⟩:=hY pre ((k:Int),(rD s k m:Int)) _ hJ (by rw[HI.out];simp);dsimp only at hy
      by_cases h1:1<m
      · have e1:decide ((1:Int)<(m:Int))=true:=by simp;omega
        have HP0:(bits BinOp.and IntKind.i64 (wrap64 ↑s[k].toNat) (127 / 2 ^ m))=((ptF s k m 0:Nat):Int):=by
         rw[aQg _ _ (UInt8.toNat_lt _)];show _=((pt0 s k m:Nat):Int)
         unfold pt0;rw[if_pos h1,vU hlt]
        gi_wp2
        gi_loopw [5,6] (fun p i wr=>∃ j:Nat,j+1≤m∧i=.int .i64 (j+1:Nat)∧p=.int .i64 (ptF s k m j:Nat)∧wr=w1)
         (fun _ i _=>m-(intOf i).toNat)
        case atStart=>exact⟨0,by omega,rfl,rfl,rfl⟩
        case round =>
         obtain⟨j,hj,rfl,rfl,rfl⟩:=hrel;by_cases hlt2:j+1<m
         · have HN:=zh (show bits BinOp.or IntKind.i64 (wrap64 (((ptF s k m j:Nat):Int)*64)) (wrap64 (bits BinOp.and IntKind.u8 (↑s[k+(j+1)].toNat) 63))=((ptF s k m (j+1):Nat):Int) by
            rw[aVz _ _ (Nat.lt_of_lt_of_le (aWr s k m j) (Nat.pow_le_pow_right (by decide) (by omega))) (UInt8.toNat_lt _)];show _=(((ptF s k m j*64) ||| (mF s (k+1+j) &&& 63):Nat):Int)
            rw[vU (by omega)];congr 5
            omega)
           gi_wp2
           refine⟨⟨j+1,by omega,by simp,by rw[HN.out],trivial⟩,?_⟩;simp[intOf];omega
         · obtain rfl:m=j+1:=by omega
           have hpn:rD s k (j+1)=ptF s k (j+1) j:=rfl;rw[hpn] at hy HI HX hR;gi_wp2
           refine hR.mono ?_;rintro e W3 (⟨rfl,hJ3,hk3⟩ | ⟨rfl,hJx3⟩)
           · have hc3:=Eq.trans hk3 hc;gi_wp2
             go_roundw
             case rel=>exact⟨k+(j+1),f,pre++[((k:Int),(ptF s k (j+1) j:Int))],hin,by simp,by rw[List.append_assoc];exact HI.out,by omega,hJ3,hc3⟩
             case measure=>simp[intOf];omega
           · gi_wp2
             refine bodyPost_ret (results_none rfl _ _ _) rfl ?_;exact⟨⟨_,rfl⟩,.inr ⟨_,HX.out,hJx3⟩⟩
      · obtain rfl:m=1:=by omega
        have e1:decide ((1:Int)<((1:Nat):Int))=false:=by simp
        have HP0:wrap64 (s[k].toNat:Int)=((rD s k 1:Nat):Int):=by
         rw[w64 _ (by have:=UInt8.toNat_lt s[k];omega)];show _=((pt0 s k 1:Nat):Int)
         unfold pt0;rw[if_neg (by omega),vU hlt]
        gi_wp2
        gi_loopw [5,6] (fun p i wr=>i=.int .i64 1∧p=.int .i64 (rD s k 1:Nat)∧wr=w1) (fun _ _ _=>0)
        case atStart=>exact⟨rfl,by rw[HP0],rfl⟩
        case round =>
         obtain⟨rfl,rfl,rfl⟩:=hrel;gi_wp2
         refine hR.mono ?_;rintro e W3 (⟨rfl,hJ3,hk3⟩ | ⟨rfl,hJx3⟩)
         · have hc3:=Eq.trans hk3 hc;gi_wp2
           go_roundw
           case rel=>exact⟨k+1,f,pre++[((k:Int),(rD s k 1:Int))],hin,by simp,by rw[List.append_assoc];exact HI.out,by omega,hJ3,hc3⟩
           case measure=>simp[intOf];omega
         · gi_wp2
           refine bodyPost_ret (results_none rfl _ _ _) rfl ?_;exact⟨⟨_,rfl⟩,.inr ⟨_,HX.out,hJx3⟩⟩
  · have hz:iH s f k=[]:=by cases f<;>simp[iH,hlt]
    gi_wp2
    go_end0
    exact⟨⟨_,rfl⟩,.inl ⟨pre,by rw[hpre,hz,List.append_nil],hJ⟩⟩
attribute [local go_sem] Oper.semAt_some
theorem aMb (n:Nat) (s:ByteArray) (w:World) :
 CallsIn Fence.wide n prog 85 #[.string s] w fun e w'=>e=.returned (.func (.func 108) #[] #[.pointer (some ⟨w.heap.size,0,none⟩)])∧w'=w.alloc (.cells #[.string s] 9):=by
 refine callsIn_of_wp func85 rfl trivial ?_ rfl;simp only [ntmps85,List.size_toArray,List.length_cons,List.length_nil,Nat.reduceAdd,Nat.reduceSub,Array.replicate_succ,Array.replicate_zero,List.push_toArray,List.append_toArray,List.nil_append,List.cons_append];gi_wp2
 go_ret;exact⟨rfl,rfl⟩
theorem aAi (Bs:Nat) (s:ByteArray) (hs:s.size≤4611686018427387904) (w:World) (hBs:Bs<w.heap.size) (hc:w.cell? ⟨Bs,0,none⟩=some (.string s)) :
 SeqStopsK Fence.wide 9 prog 108 #[.pointer (some ⟨Bs,0,none⟩)] (fun x:Int×Int=>#[Value.int .i64 x.1,Value.int .i64 x.2]) (KpB Bs) (fun ys=>ys=items s) (fun pre=>pre <+: items s) (items s).length w :=
 fun l J Jx W hW _ _ hY h0=>aWa l Bs s hs J Jx hY W ((hW.cell (p:=⟨Bs,0,none⟩) hBs).trans hc) h0
def bK (s:ByteArray):Int:=((items s).find? (fun x=>decide (x.2<0))).elim (-1) (·.1)
def Good (pre:List (Int×Int)):Prop:=∀ x∈pre,0≤x.2
def Bad (pre:List (Int×Int)) (a:Int):Prop:=∃ ini last,pre=ini++[last]∧Good ini∧last.2<0∧last.1=a
theorem Good.nil:Good []:=fun x h=>by cases h
theorem Good.snoc {pre:List (Int×Int)} {x:Int×Int} (h:Good pre) (hx:0≤x.2):Good (pre++[x]):=fun y hy=>by
 rcases List.mem_append.1 hy with h1 | h1
 · exact h y h1
 · simp only [List.mem_singleton] at h1;exact h1▸hx
theorem Good.bad {pre:List (Int×Int)} {x:Int×Int} (h:Good pre) (hx:x.2<0):Bad (pre++[x]) x.1:=⟨pre,x,rfl,h,hx,rfl⟩
theorem aMc {s:ByteArray} (h:Good (items s)):bK s=-1:=by
 unfold bK;rw[List.find?_eq_none.2 (fun x hx=>by have:=h x hx;simpa using this)];rfl
theorem aAj {s:ByteArray} {pre:List (Int×Int)} {a:Int} (hp:pre <+: items s) (hb:Bad pre a):bK s=a:=by
 obtain⟨ini,last,rfl,hi,hl,rfl⟩:=hb;obtain⟨r,hr⟩:=hp;unfold bK;rw[← hr,List.append_assoc,List.find?_append,List.find?_eq_none.2 (fun x hx=>by have:=hi x hx;simpa using this)];simp[hl]
theorem tV (s:ByteArray) (hs:s.size≤4611686018427387904) (w:World) :
 Calls prog 51 #[.string s] w fun e w'=>e=.returned (.int .i64 (bK s))∧Below w.heap.size w w':=by
 refine(callsIn_wide (n:=10)).1 ?_;refine callsIn_of_wp_marks func51 rfl trivial ?_ rfl;simp only [ntmps51,List.size_toArray,List.length_cons,List.length_nil,Nat.reduceAdd,Nat.reduceSub,Array.replicate_succ,Array.replicate_zero,List.push_toArray,List.append_toArray,List.nil_append,List.cons_append];gi_wp2
 refine⟨trivial,(aMb _ _ _).mono ?_⟩;rintro e w' ⟨rfl,rfl⟩;gi_wp2
 have bR:=Boxed.new w 3 (.int .i64 0);have bN:=Boxed.new (w.alloc (.cells #[.int .i64 0] 3)) 9 (.string s);rw[World.size_alloc] at bN;have hB0:Below w.heap.size w ((w.alloc (.cells #[.int .i64 0] 3)).alloc (.cells #[.string s] 9)):=(zr.alloc lr _).alloc (by simp) _;refine wpIn_rangeFunc_ownG rfl (by omega) (gf:=108) (lb:=#[.pointer (some ⟨w.heap.size+1,0,none⟩)]) (by simp[go_sem]) trivial (enters_of func108 (by kernel_rfl) rfl)
  (aAi (w.heap.size+1) s hs _ (by simp) bN.cell) bFa (bFb (by simp)) zr (fun _=>rfl)
  (fun pre W=>(Good pre∧W.cell? ⟨w.heap.size,0,none⟩=some (.int .i64 0)∧W.frozen? ⟨w.heap.size,0,none⟩=false)∧Below w.heap.size w W)
  (fun c pre W=>(c=.ret∧∃ a,Bad pre a∧W.cell? ⟨w.heap.size,0,none⟩=some (.int .i64 a))∧Below w.heap.size w W)
  (OwnFrom.and (Own.from (fun s A B row hs hg hr=>⟨hs.1,cell_kept hs.2.1 hg hr,(frozen_kept hs.2.1 hg hr).trans hs.2.2⟩) _) (ownFrom_below lr (by simp;omega)))
  (fun c=>OwnFrom.and (Own.from (fun s A B row hs hg hr=>by obtain⟨hc,a,e1,e4⟩:=hs;exact⟨hc,a,e1,cell_kept e4 hg hr⟩) _) (ownFrom_below lr (by simp;omega)))
  ⟨⟨Good.nil,(bR.alloc _).cell,(bR.alloc _).frozen⟩,hB0⟩
  (fun x=>{ tmps:=#[.string s,undef,.pointer (some ⟨w.heap.size,0,none⟩),.int .i64 x.1,.int .i64 x.2,.string s,.func (.func 108) #[] #[.pointer (some ⟨w.heap.size+1,0,none⟩)],.int .i64 x.1,.int .i64 x.2,undef,undef,undef],defers:=[] }) ?assign ?body ?done ?stop
 case assign =>
  intro l x W K hK;gi_wp2
  exact hK
 case body =>
  rintro l pre x W ⟨⟨hp,hcr,hfr⟩,hB⟩ _;gi_wp2
  · have hx:x.2<0:=by assumption
    exact⟨(KeepsOthers.setCell _ _ _).from _,⟨rfl,x.1,hp.bad hx,World.cell?_setCell_same' _ _ _ (by rw[hcr];rfl)⟩,hB.setCell (p:=⟨w.heap.size,0,none⟩) lr _⟩
  · have hx:0≤x.2:=by assumption
    exact⟨KeepsFrom.refl _ _,rfl,⟨hp.snoc hx,hcr,hfr⟩,hB⟩
 case done =>
  rintro D ys W hD rfl ⟨⟨hne,hcr,hfr⟩,hB⟩ hK;gi_wp2
  have hK':=(KeepsOthers.setCell W ⟨w.heap.size,0,none⟩ (.int .i64 (-1))).same D _ hK rfl;refine⟨by simp,.inl ⟨_,_,rfl,run_takeDeferred hK',?_⟩⟩;have hc5:=cell_kept (World.cell?_setCell_same' W ⟨w.heap.size,0,none⟩ (.int .i64 (-1)) (by rw[hcr];rfl)) (grownBy_putObj' _ D (.deferred none)) (fun r e=>by cases e;exact⟨_,hK',rfl⟩);refine⟨.int .i64 (-1),?_,by rw[aMc hne],(hB.setCell (p:=⟨w.heap.size,0,none⟩) lr _).trans (belowK_b (w:=w) lr _ D _ _ (by simp at hD;omega) hK' rfl rfl)⟩;simp[results,Tryz.f51,go_sem,hc5]
 case stop =>
  rintro D c pre W hD hpre ⟨⟨rfl,a,hbad,hcr⟩,hB⟩ hK;gi_wp2
  refine⟨by simp,.inl ⟨_,_,rfl,run_takeDeferred hK,?_⟩⟩;have hc5:=cell_kept hcr (grownBy_putObj' _ D (.deferred none)) (fun r e=>by cases e;exact⟨_,hK,rfl⟩);refine⟨.int .i64 a,?_,by rw[aAj hpre hbad],hB.trans (belowK_b (w:=w) lr W D _ _ (by simp at hD;omega) hK rfl rfl)⟩;simp[results,Tryz.f51,go_sem,hc5]
