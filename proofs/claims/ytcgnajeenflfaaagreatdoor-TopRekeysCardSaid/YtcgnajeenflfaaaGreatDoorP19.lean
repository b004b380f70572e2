import Derived.Deep.Slices
import Derived.OpenShut
import Derived.ProofKit
import Derived.ShutString
import Derived.Test.YtcgnajeenflfaaaGreatDoorP11
set_option maxRecDepth 100000
set_option maxHeartbeats 4000000
set_option linter.all false
open Go.Proofs.Tryz Go.RowKit
namespace Go.Proofs.YtcgnajeenflfaaaGreatDoor
namespace Sc
open Go.ChangeShapes Go.WideShapes Go.ChangeAt Go.RowKit Go.Deep
open We (Co)
theorem aXz {H:Type} {P:Program} {e:TypeId} {ds:List (DataW H)} {d:DataW H} (hd:d∈ds):∀ n∈d.weights P e,n∈DataW.weightsAll P e ds:=by
 induction ds with
 | nil=>cases hd
 | cons a r ih =>
  intro n hn;rw[DataW.weightsAll,List.mem_append];rcases List.mem_cons.1 hd with h | h
  · exact .inl (h▸hn)
  · exact .inr (ih h n hn)
theorem aFc {k:Int} (h:(Lit.int .i64 k).wf=true):D.aF k:=by
 simp only [Lit.wf,IntKind.min,IntKind.max,IntKind.signed,IntKind.bits,Bool.and_eq_true,decide_eq_true_eq,if_true] at h;unfold D.aF;omega
def aBu (H:Type) (enc:TypeId×Value→H) (w:World) (base:Nat) (sp:Nat→Bool) (held:Bool) (fuel:Nat):Prop :=
 ∀ (v:Value) (x:DataW H×List MemPlace),DataW.trod enc prog w base sp held fuel 24 [v]=some x→(∀ n∈x.1.weights prog 24,n≤reachBytes)→∃ l,FI w 0 w.heap.size l v∧l.length≤reachBytes
theorem aJz {H:Type} {enc:TypeId×Value→H} {w:World} {base:Nat} {sp:Nat→Bool} {held:Bool} {fuel:Nat} {a b:Value} {x:DataW H×List MemPlace}
 (h:DataW.trod enc prog w base sp held fuel 54 [a,b]=some x) (hw:∀ n∈x.1.weights prog 54,n≤reachBytes):∃ (neg:Bool) (m:ByteArray),a=.bool neg∧b=.string m∧m.size≤140737488351232:=by
 have e4:prog.cellsOf 4=1:=by kernel_rfl
 have e9:prog.cellsOf 9=1:=by kernel_rfl
 obtain⟨z0,z1,m,hz,_,g0,g1⟩:=trod_struct2 underlying54 h;obtain⟨neg,hng,_⟩:=DataW.trod_bool underlying4 g0;obtain⟨mag,hmg,hmz,_⟩:=DataW.trod_string underlying9 g1;rw[e4] at hng;rw[e9] at hmg;refine⟨neg,mag,by simpa using hng,by simpa using hmg,?_⟩;have hms:mag.size≤reachBytes:=by
  refine hw _ ?_;rw[hz];simp[DataW.weights,underlying54,DataW.weightsEach,hmz]
 have hr:reachBytes=140737488351232:=by decide
 rwa [hr] at hms
theorem aGx {H:Type} {enc:TypeId×Value→H} {w:World} {base:Nat} {sp:Nat→Bool} {held:Bool} {fuel:Nat} {a b c:Value} {x:DataW H×List MemPlace}
 (h:DataW.trod enc prog w base sp held fuel 77 [a,b,c]=some x):∃ (k:Int) (p q:Bool),a=.int .i64 k∧b=.bool p∧c=.bool q∧D.aF k:=by
 have e3:prog.cellsOf 3=1:=by kernel_rfl
 have e4:prog.cellsOf 4=1:=by kernel_rfl
 obtain⟨ys,n,hn,rfl,hcl,hyl,hf⟩:=DataW.trod_struct underlying77 h;match ys,hyl with
 | [y0,y1,y2],_ =>
  have h0:=hf 0 _ rfl;have h1:=hf 1 _ rfl;have h2:=hf 2 _ rfl;simp[e3,e4] at h0 h1 h2;obtain⟨k,hk,_,hkw⟩:=DataW.trod_int underlying3 h0;obtain⟨p,hp,_⟩:=DataW.trod_bool underlying4 h1;obtain⟨q,hq,_⟩:=DataW.trod_bool underlying4 h2;exact⟨k,p,q,by simpa using hk,by simpa using hp,by simpa using hq,aFc hkw⟩
theorem aNh {H:Type} {enc:TypeId×Value→H} {w:World} {base:Nat} {sp:Nat→Bool} {held:Bool} {fuel:Nat} {cs:List Value} {x:DataW H×List MemPlace}
 (ih:∀ m,m<fuel→aBu H enc w base sp held m) (h:DataW.trod enc prog w base sp held fuel 79 cs=some x) (hw:∀ n∈x.1.weights prog 79,n≤reachBytes) :
 ∃ (f:Fd) (u:Value),cs=aR f u∧jY f∧FI w 0 w.heap.size f.fields u:=by
 obtain⟨ys,n,hn,rfl,hcl,hyl,hf⟩:=DataW.trod_struct underlying79 h;have e14:prog.cellsOf 79=14:=by kernel_rfl
 rw[e14] at hcl;match cs,hcl with
 | [v0,v1,v2,v3,v4,v5,v6,v7,v8,v9,v10,v11,v12,v13],_ =>
  match ys,hyl with
  | [y0,y1,y2,y3,y4,y5,y6,y7,y8,y9],_ =>
   have e22:prog.cellsOf 52=1:=by kernel_rfl
   have eNu:prog.cellsOf 75=1:=by kernel_rfl
   have e3:prog.cellsOf 3=1:=by kernel_rfl
   have e4:prog.cellsOf 4=1:=by kernel_rfl
   have e24:prog.cellsOf 54=2:=by kernel_rfl
   have eCo:prog.cellsOf 77=3:=by kernel_rfl
   have e9:prog.cellsOf 9=1:=by kernel_rfl
   have eFs:prog.cellsOf 24=1:=by kernel_rfl
   have h0:=hf 0 _ rfl;have h1:=hf 1 _ rfl;have h2:=hf 2 _ rfl;have h3:=hf 3 _ rfl;have h4:=hf 4 _ rfl;have h5:=hf 5 _ rfl;have h6:=hf 6 _ rfl;have h7:=hf 7 _ rfl;have h8:=hf 8 _ rfl;have h9:=hf 9 _ rfl;simp[e22,eNu,e3,e4,e24,eCo,e9,eFs] at h0 h1 h2 h3 h4 h5 h6 h7 h8 h9;have hw':∀ n∈DataW.weightsEach prog [9,52,4,75,4,54,54,3,77,24] [y0.1,y1.1,y2.1,y3.1,y4.1,y5.1,y6.1,y7.1,y8.1,y9.1],n≤reachBytes:=by
    simpa[DataW.weights,underlying79] using hw
   have q0:∀ n∈y0.1.weights prog 9,n≤reachBytes:=fun n hn=>hw' n (DataW.weights_mem_each (j:=0) rfl rfl n hn)
   have q5:∀ n∈y5.1.weights prog 54,n≤reachBytes:=fun n hn=>hw' n (DataW.weights_mem_each (j:=5) rfl rfl n hn)
   have q6:∀ n∈y6.1.weights prog 54,n≤reachBytes:=fun n hn=>hw' n (DataW.weights_mem_each (j:=6) rfl rfl n hn)
   have q9:∀ n∈y9.1.weights prog 24,n≤reachBytes:=fun n hn=>hw' n (DataW.weights_mem_each (j:=9) rfl rfl n hn)
   obtain⟨nm,hnm,hnz,_⟩:=DataW.trod_string underlying9 h0;obtain⟨k,hk,_,hkw⟩:=DataW.trod_int underlying52 h1;obtain⟨dn,hdn,_⟩:=DataW.trod_bool underlying4 h2;obtain⟨nu,hnu,_,bKe⟩:=DataW.trod_int underlying75 h3;obtain⟨bd,hbd,_⟩:=DataW.trod_bool underlying4 h4;obtain⟨eX,eG,rfl,rfl,hlm⟩:=aJz h5 q5;obtain⟨hib,him,rfl,rfl,hhm⟩:=aJz h6 q6;obtain⟨mo,hmo,_,bQl⟩:=DataW.trod_int underlying3 h7;obtain⟨st,sh,bk,rfl,rfl,rfl,hst⟩:=aGx h8;obtain rfl:v0=.string nm:=by simpa using hnm
   obtain rfl:v1=.int .u8 k:=by simpa using hk
   obtain rfl:v2=.bool dn:=by simpa using hdn
   obtain rfl:v3=.int .u8 nu:=by simpa using hnu
   obtain rfl:v4=.bool bd:=by simpa using hbd
   obtain rfl:v9=.int .i64 mo:=by simpa using hmo
   have hkb:0≤k∧k≤255:=by
    simp only [Lit.wf,Bool.and_eq_true,decide_eq_true_eq] at hkw;exact hkw
   have hnb:0≤nu∧nu≤255:=by
    simp only [Lit.wf,Bool.and_eq_true,decide_eq_true_eq] at bKe;exact bKe
   obtain⟨l,hl,hll⟩:=ih n (by omega) v13 y9 h9 q9;have hns:nm.size≤reachBytes:=by
    refine q0 _ ?_;rw[hnz];simp[DataW.weights]
   have hr:reachBytes=140737488351232:=by decide
   rw[hr] at hns hll;refine⟨.mk nm k.toNat dn nu.toNat bd eX eG hib him mo ⟨st,sh,bk⟩ l,v13,?_,⟨hns,?_,?_,hlm,hhm,aFc bQl,hst,hll⟩,hl⟩
   · show [_,Value.int .u8 k,_,Value.int .u8 nu,_,_,_,_,_,_,_,_,_,_]=[_,Value.int .u8 (k.toNat:Int),_,Value.int .u8 (nu.toNat:Int),_,_,_,_,_,_,_,_,_,_]
     rw[Int.toNat_of_nonneg hkb.1,Int.toNat_of_nonneg hnb.1];rfl
   · show k.toNat<256
     omega
   · show nu.toNat<256
     omega
theorem aNi {H:Type} {enc:TypeId×Value→H} {w:World} {base:Nat} {sp:Nat→Bool} {held:Bool} (fuel:Nat):aBu H enc w base sp held fuel:=by
 induction fuel using Nat.strongRecOn with
 | _ fuel ih =>
 intro v x h hw;rcases DataW.trod_slice underlying24 h with ⟨hc,rfl⟩ | ⟨a,len,cap,elems,rest,n,rfl,hc,rfl,_,hlc,_,hel,hall,_⟩
 · obtain rfl:v=.slice none 0 0:=by simpa using hc
   exact⟨[],FI.nil _ _ _,Nat.zero_le _⟩
 obtain rfl:v=.slice (some a) len cap:=by simpa using hc
 have e27:prog.cellsOf 79=14:=by kernel_rfl
 have b27:1≤prog.bytesOf 79:=by decide +kernel
 rw[e27] at hall;have hw':(elems.length+rest.length)*prog.bytesOf 79≤reachBytes∧∀ n∈DataW.weightsAll prog 79 (elems.map (·.1)),n≤reachBytes:=by
  simp only [DataW.weights,underlying24,List.length_map,List.mem_cons,List.mem_append] at hw;exact⟨hw _ (.inl rfl),fun n hn=>hw n (.inr (.inl hn))⟩
 have hlen:len≤reachBytes:=by
  have h1:(elems.length+rest.length)*1≤(elems.length+rest.length)*prog.bytesOf 79:=Nat.mul_le_mul_left _ b27;omega
 obtain⟨b,off,spot⟩:=a;by_cases h0:len=0
 · subst h0;exact⟨[],FI.mk [] (some ⟨b,off,spot⟩) cap (fun _=>.nilIface) (Nat.zero_le _) (fun j hj=>by cases hj) (fun j hj=>by cases hj) (fun j hj=>by cases hj),Nat.zero_le _⟩
 obtain rfl:spot=none:=by
  have h1:=hall 0 (by omega);rw[List.getElem?_eq_getElem (by omega)] at h1;obtain⟨cs,h2,h3⟩:=Option.bind_eq_some_iff.1 h1;obtain⟨_,hcl,hat⟩:=World.cells?_some h2;have:=hat 0 (by decide);rw[List.getElem?_eq_getElem (by omega)] at this;simpa[Addr.add] using World.cell?_spot this
 have hadd:∀ o k,(⟨b,o,none⟩:Addr).add k=⟨b,o+k,none⟩:=fun o k=>by
  simp only [Addr.add];split<;>simp_all
 have key:∀ j,j<len→b<w.heap.size∧∃ (f:Fd) (u:Value),lG w b (off+j*14) f u∧jY f∧FI w 0 w.heap.size f.fields u:=fun j hj=>by
  have h1:=hall j hj;rw[List.getElem?_eq_getElem (by omega)] at h1;obtain⟨cs,h2,h3⟩:=Option.bind_eq_some_iff.1 h1;obtain⟨f,u,rfl,hf,hp⟩:=aNh (fun m hm=>ih m (by omega)) h3 (fun m hm=>hw'.2 m (aXz (List.mem_map.2 ⟨_,List.getElem_mem _,rfl⟩) m hm));obtain⟨_,_,hat⟩:=World.cells?_some h2;have at_:lG w b (off+j*14) f u:=fun i hi=>by
   have:=hat i hi;rw[hadd,hadd] at this;rw[this];exact List.getElem?_eq_getElem hi
  exact⟨World.block_lt_of_cell? w _ (at_ 0 (by decide)),f,u,at_,hf,hp⟩
 let G:Nat→Fd:=fun j=>if hj:j<len then (key j hj).2.choose else .mk .empty 0 false 0 false false .empty false .empty 0 ⟨0,false,false⟩ []
 let F:Nat→Value:=fun j=>if hj:j<len then (key j hj).2.choose_spec.choose else .nilIface
 have hG:∀ j,j<len→lG w b (off+j*14) (G j) (F j)∧jY (G j)∧FI w 0 w.heap.size (G j).fields (F j):=fun j hj=>by
  simp only [G,F,hj,dif_pos];exact(key j hj).2.choose_spec.choose_spec
 have hl:((List.range len).map G).length=len:=by simp
 have hg:∀ j (h:j<((List.range len).map G).length),((List.range len).map G)[j]=G j:=fun j h=>by simp
 refine⟨(List.range len).map G,?_,by rw[hl];exact hlen⟩;have:=FI.mk (w:=w) (lo:=0) (hi:=w.heap.size) ((List.range len).map G) (some ⟨b,off,none⟩) cap F (by rw[hl];exact hlc)
  (fun j h=>⟨b,off,rfl,Nat.zero_le _,(key j (by omega)).1,by rw[hg];exact(hG j (by omega)).1⟩) (fun j h=>by rw[hg];exact(hG j (by omega)).2.1) (fun j h=>by rw[hg];exact(hG j (by omega)).2.2)
 rw[hl] at this;exact this
