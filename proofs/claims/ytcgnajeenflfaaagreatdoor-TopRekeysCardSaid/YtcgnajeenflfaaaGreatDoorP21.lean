import Derived.Test.YtcgnajeenflfaaaGreatDoorP20
set_option maxRecDepth 100000
set_option maxHeartbeats 4000000
set_option linter.all false
open Go.Proofs.Tryz Go.RowKit
namespace Go.Proofs.YtcgnajeenflfaaaGreatDoor
namespace V
theorem jT {p:Pt} {y z t:Bool} (hy:p.yes=y) (hz:(!p.neg&&p.mag.toList.isEmpty)=z) (ht:p.items.isEmpty=t) (X:Bool)
 (hX:(if p.kind=2 then p.raw.toList.isEmpty&&iJ p.neg p.mag.toList==0 else if p.kind=4 then p.raw.size==16 else if p.kind=3∨p.kind=5∨p.kind=6 then decide (p.raw.size≤65536)
  else if p.kind=7 then p.raw.toList.isEmpty&&decide (p.items.length≤1024) else p.raw.toList.isEmpty)=X) :
 aL p=((decide (p.kind≤7)&&(p.kind==1 || !y)&&(p.kind==2 || z)&&(p.kind==7 || t)&&X)&&(!(p.kind==7) || p.items.all aL)):=by
 rw[nI];unfold fB;rw[hX,hy,hz,ht]
theorem bKg (p:Pt) (v:Value) (w:World) (hf:Fit p) (hp:PI w 0 w.heap.size p.items v) (hk:p.kind=0) :
 Calls prog 55 #[.agg #[.int .u8 p.kind,.bool p.yes,.bool p.neg,.string p.mag,.string p.raw,v]] w fun e w'=>e=.returned (.bool (aL p))∧Below w.heap.size w w':=by
 obtain⟨a,cap,rfl,_,_⟩:=hp.open;clear hp;have hm:=hf.m;have hr:=hf.r;have hl:=hf.l;have hkb:=hf.k;obtain⟨y,hy⟩:∃ y,p.yes=y:=⟨_,rfl⟩
 obtain⟨z,hz⟩:∃ z,(!p.neg&&p.mag.toList.isEmpty)=z:=⟨_,rfl⟩
 obtain⟨t,ht⟩:∃ t,p.items.isEmpty=t:=⟨_,rfl⟩
 have hM:=jT hy hz ht (p.raw.toList.isEmpty) (by simp[hk]);have h24:=kN p.neg false p.mag ⟨#[]⟩ z (by rw[← hz];cases p.neg<;>simp);have aKe:=lV p.neg false p.mag ⟨#[]⟩ z (by rw[← hz];cases p.neg<;>simp);have hl0:((p.items.length:Int)==0)=t:=by rw[← ht];cases p.items<;>simp;omega
 have hl1:decide (0<p.items.length)=!t:=by rw[← ht];cases p.items<;>simp
 have e0:((p.kind:Int)==0)=true:=beq_iff_eq.2 (by omega);have n0:((p.kind:Int) != 0)=false:=by rw[bne,e0];rfl
 have e1:((p.kind:Int)==1)=false:=beq_eq_false_iff_ne.2 (by omega);have n1:((p.kind:Int) != 1)=true:=by rw[bne,e1];rfl
 have e2:((p.kind:Int)==2)=false:=beq_eq_false_iff_ne.2 (by omega);have n2:((p.kind:Int) != 2)=true:=by rw[bne,e2];rfl
 have e3:((p.kind:Int)==3)=false:=beq_eq_false_iff_ne.2 (by omega);have n3:((p.kind:Int) != 3)=true:=by rw[bne,e3];rfl
 have e4:((p.kind:Int)==4)=false:=beq_eq_false_iff_ne.2 (by omega);have n4:((p.kind:Int) != 4)=true:=by rw[bne,e4];rfl
 have e5:((p.kind:Int)==5)=false:=beq_eq_false_iff_ne.2 (by omega);have n5:((p.kind:Int) != 5)=true:=by rw[bne,e5];rfl
 have e6:((p.kind:Int)==6)=false:=beq_eq_false_iff_ne.2 (by omega);have n6:((p.kind:Int) != 6)=true:=by rw[bne,e6];rfl
 have e7:((p.kind:Int)==7)=false:=beq_eq_false_iff_ne.2 (by omega);have n7:((p.kind:Int) != 7)=true:=by rw[bne,e7];rfl
 have HM:=zh (show aL p=(!y&&z&&t&&(p.raw.toList.isEmpty)) by rw[hM];simp[hk]);clear hM hz ht hk;cases y<;>cases z<;>cases t
 · go_enter func55,ntmps55;go_wp2_with fail;go_ret;exact⟨by rw[HM.out];rfl,zr.alloc lr _⟩
 · go_enter func55,ntmps55;go_wp2_with fail;go_ret;exact⟨by rw[HM.out];rfl,zr.alloc lr _⟩
 · go_enter func55,ntmps55;go_wp2_with fail;go_ret;exact⟨by rw[HM.out];rfl,zr.alloc lr _⟩
 · go_enter func55,ntmps55;go_wp2_with fail;go_ret;exact⟨by rw[HM.out];first | rfl | exact congrArg (fun b=>Ending.returned (.bool b)) (by rw[Bool.eq_iff_iff];simp;omega),zr.alloc lr _⟩
 · go_enter func55,ntmps55;go_wp2_with fail;go_ret;exact⟨by rw[HM.out];rfl,zr.alloc lr _⟩
 · go_enter func55,ntmps55;go_wp2_with fail;go_ret;exact⟨by rw[HM.out];rfl,zr.alloc lr _⟩
 · go_enter func55,ntmps55;go_wp2_with fail;go_ret;exact⟨by rw[HM.out];rfl,zr.alloc lr _⟩
 · go_enter func55,ntmps55;go_wp2_with fail;go_ret;exact⟨by rw[HM.out];rfl,zr.alloc lr _⟩
theorem bKh (p:Pt) (v:Value) (w:World) (hf:Fit p) (hp:PI w 0 w.heap.size p.items v) (hk:p.kind=1) :
 Calls prog 55 #[.agg #[.int .u8 p.kind,.bool p.yes,.bool p.neg,.string p.mag,.string p.raw,v]] w fun e w'=>e=.returned (.bool (aL p))∧Below w.heap.size w w':=by
 obtain⟨a,cap,rfl,_,_⟩:=hp.open;clear hp;have hm:=hf.m;have hr:=hf.r;have hl:=hf.l;have hkb:=hf.k;obtain⟨y,hy⟩:∃ y,p.yes=y:=⟨_,rfl⟩
 obtain⟨z,hz⟩:∃ z,(!p.neg&&p.mag.toList.isEmpty)=z:=⟨_,rfl⟩
 obtain⟨t,ht⟩:∃ t,p.items.isEmpty=t:=⟨_,rfl⟩
 have hM:=jT hy hz ht (p.raw.toList.isEmpty) (by simp[hk]);have h24:=kN p.neg false p.mag ⟨#[]⟩ z (by rw[← hz];cases p.neg<;>simp);have aKe:=lV p.neg false p.mag ⟨#[]⟩ z (by rw[← hz];cases p.neg<;>simp);have hl0:((p.items.length:Int)==0)=t:=by rw[← ht];cases p.items<;>simp;omega
 have hl1:decide (0<p.items.length)=!t:=by rw[← ht];cases p.items<;>simp
 have e0:((p.kind:Int)==0)=false:=beq_eq_false_iff_ne.2 (by omega);have n0:((p.kind:Int) != 0)=true:=by rw[bne,e0];rfl
 have e1:((p.kind:Int)==1)=true:=beq_iff_eq.2 (by omega);have n1:((p.kind:Int) != 1)=false:=by rw[bne,e1];rfl
 have e2:((p.kind:Int)==2)=false:=beq_eq_false_iff_ne.2 (by omega);have n2:((p.kind:Int) != 2)=true:=by rw[bne,e2];rfl
 have e3:((p.kind:Int)==3)=false:=beq_eq_false_iff_ne.2 (by omega);have n3:((p.kind:Int) != 3)=true:=by rw[bne,e3];rfl
 have e4:((p.kind:Int)==4)=false:=beq_eq_false_iff_ne.2 (by omega);have n4:((p.kind:Int) != 4)=true:=by rw[bne,e4];rfl
 have e5:((p.kind:Int)==5)=false:=beq_eq_false_iff_ne.2 (by omega);have n5:((p.kind:Int) != 5)=true:=by rw[bne,e5];rfl
 have e6:((p.kind:Int)==6)=false:=beq_eq_false_iff_ne.2 (by omega);have n6:((p.kind:Int) != 6)=true:=by rw[bne,e6];rfl
 have e7:((p.kind:Int)==7)=false:=beq_eq_false_iff_ne.2 (by omega);have n7:((p.kind:Int) != 7)=true:=by rw[bne,e7];rfl
 have HM:=zh (show aL p=(z&&t&&(p.raw.toList.isEmpty)) by rw[hM];simp[hk]);clear hM hz ht hk;cases z<;>cases t
 · go_enter func55,ntmps55;go_wp2_with fail;go_ret;exact⟨by rw[HM.out];rfl,zr.alloc lr _⟩
 · go_enter func55,ntmps55;go_wp2_with fail;go_ret;exact⟨by rw[HM.out];rfl,zr.alloc lr _⟩
 · go_enter func55,ntmps55;go_wp2_with fail;go_ret;exact⟨by rw[HM.out];rfl,zr.alloc lr _⟩
 · go_enter func55,ntmps55;go_wp2_with fail;go_ret;exact⟨by rw[HM.out];first | rfl | exact congrArg (fun b=>Ending.returned (.bool b)) (by rw[Bool.eq_iff_iff];simp;omega),zr.alloc lr _⟩
theorem bKi (p:Pt) (v:Value) (w:World) (hf:Fit p) (hp:PI w 0 w.heap.size p.items v) (hk:p.kind=2) :
 Calls prog 55 #[.agg #[.int .u8 p.kind,.bool p.yes,.bool p.neg,.string p.mag,.string p.raw,v]] w fun e w'=>e=.returned (.bool (aL p))∧Below w.heap.size w w':=by
 obtain⟨a,cap,rfl,_,_⟩:=hp.open;clear hp;have hm:=hf.m;have hr:=hf.r;have hl:=hf.l;have hkb:=hf.k;obtain⟨y,hy⟩:∃ y,p.yes=y:=⟨_,rfl⟩
 obtain⟨z,hz⟩:∃ z,(!p.neg&&p.mag.toList.isEmpty)=z:=⟨_,rfl⟩
 obtain⟨t,ht⟩:∃ t,p.items.isEmpty=t:=⟨_,rfl⟩
 have hM:=jT hy hz ht (p.raw.toList.isEmpty&&iJ p.neg p.mag.toList==0) (by simp[hk]);have h24:=kN p.neg false p.mag ⟨#[]⟩ z (by rw[← hz];cases p.neg<;>simp);have aKe:=lV p.neg false p.mag ⟨#[]⟩ z (by rw[← hz];cases p.neg<;>simp);have hl0:((p.items.length:Int)==0)=t:=by rw[← ht];cases p.items<;>simp;omega
 have hl1:decide (0<p.items.length)=!t:=by rw[← ht];cases p.items<;>simp
 have e0:((p.kind:Int)==0)=false:=beq_eq_false_iff_ne.2 (by omega);have n0:((p.kind:Int) != 0)=true:=by rw[bne,e0];rfl
 have e1:((p.kind:Int)==1)=false:=beq_eq_false_iff_ne.2 (by omega);have n1:((p.kind:Int) != 1)=true:=by rw[bne,e1];rfl
 have e2:((p.kind:Int)==2)=true:=beq_iff_eq.2 (by omega);have n2:((p.kind:Int) != 2)=false:=by rw[bne,e2];rfl
 have e3:((p.kind:Int)==3)=false:=beq_eq_false_iff_ne.2 (by omega);have n3:((p.kind:Int) != 3)=true:=by rw[bne,e3];rfl
 have e4:((p.kind:Int)==4)=false:=beq_eq_false_iff_ne.2 (by omega);have n4:((p.kind:Int) != 4)=true:=by rw[bne,e4];rfl
 have e5:((p.kind:Int)==5)=false:=beq_eq_false_iff_ne.2 (by omega);have n5:((p.kind:Int) != 5)=true:=by rw[bne,e5];rfl
 have e6:((p.kind:Int)==6)=false:=beq_eq_false_iff_ne.2 (by omega);have n6:((p.kind:Int) != 6)=true:=by rw[bne,e6];rfl
 have e7:((p.kind:Int)==7)=false:=beq_eq_false_iff_ne.2 (by omega);have n7:((p.kind:Int) != 7)=true:=by rw[bne,e7];rfl
 have HM:=zh (show aL p=(!y&&true&&t&&(p.raw.toList.isEmpty&&iJ p.neg p.mag.toList==0)) by rw[hM];simp[hk]);clear hM hz ht hk;cases y<;>cases t
 · go_enter func55,ntmps55;go_wp2_with fail;go_ret;exact⟨by rw[HM.out];rfl,zr.alloc lr _⟩
 · obtain⟨x,hx⟩:∃ x,p.raw.toList.isEmpty=x:=⟨_,rfl⟩
   rw[hx] at HM;cases x
   · go_enter func55,ntmps55;go_wp2_with fail;go_ret;exact⟨by rw[HM.out];rfl,zr.alloc lr _⟩
   · obtain⟨r,hr2⟩:∃ r,iJ p.neg p.mag.toList=r:=⟨_,rfl⟩
     rw[hr2] at HM;have HR:=zh hr2;have hlen:p.raw.size=0:=by rw[← aD,List.isEmpty_iff.1 hx];rfl
     have bGp:decide (65536<(p.raw.size:Int))=false:=by simp;omega
     clear hr2 hlen;go_enter func55,ntmps55;go_wp2_with fail;refine(dY p.neg p.mag _ (by omega) r HR.out).mono ?_;rintro e w1 ⟨rfl,hb1⟩;go_wp2_with fail;go_ret;exact⟨by rw[HM.out];rfl,two (zr.alloc lr _) hb1⟩
 · go_enter func55,ntmps55;go_wp2_with fail;go_ret;exact⟨by rw[HM.out];rfl,zr.alloc lr _⟩
 · go_enter func55,ntmps55;go_wp2_with fail;go_ret;exact⟨by rw[HM.out];rfl,zr.alloc lr _⟩
theorem bKj (p:Pt) (v:Value) (w:World) (hf:Fit p) (hp:PI w 0 w.heap.size p.items v) (hk:p.kind=3) :
 Calls prog 55 #[.agg #[.int .u8 p.kind,.bool p.yes,.bool p.neg,.string p.mag,.string p.raw,v]] w fun e w'=>e=.returned (.bool (aL p))∧Below w.heap.size w w':=by
 obtain⟨a,cap,rfl,_,_⟩:=hp.open;clear hp;have hm:=hf.m;have hr:=hf.r;have hl:=hf.l;have hkb:=hf.k;obtain⟨y,hy⟩:∃ y,p.yes=y:=⟨_,rfl⟩
 obtain⟨z,hz⟩:∃ z,(!p.neg&&p.mag.toList.isEmpty)=z:=⟨_,rfl⟩
 obtain⟨t,ht⟩:∃ t,p.items.isEmpty=t:=⟨_,rfl⟩
 have hM:=jT hy hz ht (decide (p.raw.size≤65536)) (by simp[hk]);have h24:=kN p.neg false p.mag ⟨#[]⟩ z (by rw[← hz];cases p.neg<;>simp);have aKe:=lV p.neg false p.mag ⟨#[]⟩ z (by rw[← hz];cases p.neg<;>simp);have hl0:((p.items.length:Int)==0)=t:=by rw[← ht];cases p.items<;>simp;omega
 have hl1:decide (0<p.items.length)=!t:=by rw[← ht];cases p.items<;>simp
 have e0:((p.kind:Int)==0)=false:=beq_eq_false_iff_ne.2 (by omega);have n0:((p.kind:Int) != 0)=true:=by rw[bne,e0];rfl
 have e1:((p.kind:Int)==1)=false:=beq_eq_false_iff_ne.2 (by omega);have n1:((p.kind:Int) != 1)=true:=by rw[bne,e1];rfl
 have e2:((p.kind:Int)==2)=false:=beq_eq_false_iff_ne.2 (by omega);have n2:((p.kind:Int) != 2)=true:=by rw[bne,e2];rfl
 have e3:((p.kind:Int)==3)=true:=beq_iff_eq.2 (by omega);have n3:((p.kind:Int) != 3)=false:=by rw[bne,e3];rfl
 have e4:((p.kind:Int)==4)=false:=beq_eq_false_iff_ne.2 (by omega);have n4:((p.kind:Int) != 4)=true:=by rw[bne,e4];rfl
 have e5:((p.kind:Int)==5)=false:=beq_eq_false_iff_ne.2 (by omega);have n5:((p.kind:Int) != 5)=true:=by rw[bne,e5];rfl
 have e6:((p.kind:Int)==6)=false:=beq_eq_false_iff_ne.2 (by omega);have n6:((p.kind:Int) != 6)=true:=by rw[bne,e6];rfl
 have e7:((p.kind:Int)==7)=false:=beq_eq_false_iff_ne.2 (by omega);have n7:((p.kind:Int) != 7)=true:=by rw[bne,e7];rfl
 have HM:=zh (show aL p=(!y&&z&&t&&(decide (p.raw.size≤65536))) by rw[hM];simp[hk]);clear hM hz ht hk;cases y<;>cases z<;>cases t
 · go_enter func55,ntmps55;go_wp2_with fail;go_ret;exact⟨by rw[HM.out];rfl,zr.alloc lr _⟩
 · go_enter func55,ntmps55;go_wp2_with fail;go_ret;exact⟨by rw[HM.out];rfl,zr.alloc lr _⟩
 · go_enter func55,ntmps55;go_wp2_with fail;go_ret;exact⟨by rw[HM.out];rfl,zr.alloc lr _⟩
 · go_enter func55,ntmps55;go_wp2_with fail;go_ret;exact⟨by rw[HM.out];first | rfl | exact congrArg (fun b=>Ending.returned (.bool b)) (by rw[Bool.eq_iff_iff];simp;omega),zr.alloc lr _⟩
 · go_enter func55,ntmps55;go_wp2_with fail;go_ret;exact⟨by rw[HM.out];rfl,zr.alloc lr _⟩
 · go_enter func55,ntmps55;go_wp2_with fail;go_ret;exact⟨by rw[HM.out];rfl,zr.alloc lr _⟩
 · go_enter func55,ntmps55;go_wp2_with fail;go_ret;exact⟨by rw[HM.out];rfl,zr.alloc lr _⟩
 · go_enter func55,ntmps55;go_wp2_with fail;go_ret;exact⟨by rw[HM.out];rfl,zr.alloc lr _⟩
theorem bKk (p:Pt) (v:Value) (w:World) (hf:Fit p) (hp:PI w 0 w.heap.size p.items v) (hk:p.kind=4) :
 Calls prog 55 #[.agg #[.int .u8 p.kind,.bool p.yes,.bool p.neg,.string p.mag,.string p.raw,v]] w fun e w'=>e=.returned (.bool (aL p))∧Below w.heap.size w w':=by
 obtain⟨a,cap,rfl,_,_⟩:=hp.open;clear hp;have hm:=hf.m;have hr:=hf.r;have hl:=hf.l;have hkb:=hf.k;obtain⟨y,hy⟩:∃ y,p.yes=y:=⟨_,rfl⟩
 obtain⟨z,hz⟩:∃ z,(!p.neg&&p.mag.toList.isEmpty)=z:=⟨_,rfl⟩
 obtain⟨t,ht⟩:∃ t,p.items.isEmpty=t:=⟨_,rfl⟩
 have hM:=jT hy hz ht (p.raw.size==16) (by simp[hk]);have h24:=kN p.neg false p.mag ⟨#[]⟩ z (by rw[← hz];cases p.neg<;>simp);have aKe:=lV p.neg false p.mag ⟨#[]⟩ z (by rw[← hz];cases p.neg<;>simp);have hl0:((p.items.length:Int)==0)=t:=by rw[← ht];cases p.items<;>simp;omega
 have hl1:decide (0<p.items.length)=!t:=by rw[← ht];cases p.items<;>simp
 have e0:((p.kind:Int)==0)=false:=beq_eq_false_iff_ne.2 (by omega);have n0:((p.kind:Int) != 0)=true:=by rw[bne,e0];rfl
 have e1:((p.kind:Int)==1)=false:=beq_eq_false_iff_ne.2 (by omega);have n1:((p.kind:Int) != 1)=true:=by rw[bne,e1];rfl
 have e2:((p.kind:Int)==2)=false:=beq_eq_false_iff_ne.2 (by omega);have n2:((p.kind:Int) != 2)=true:=by rw[bne,e2];rfl
 have e3:((p.kind:Int)==3)=false:=beq_eq_false_iff_ne.2 (by omega);have n3:((p.kind:Int) != 3)=true:=by rw[bne,e3];rfl
 have e4:((p.kind:Int)==4)=true:=beq_iff_eq.2 (by omega);have n4:((p.kind:Int) != 4)=false:=by rw[bne,e4];rfl
 have e5:((p.kind:Int)==5)=false:=beq_eq_false_iff_ne.2 (by omega);have n5:((p.kind:Int) != 5)=true:=by rw[bne,e5];rfl
 have e6:((p.kind:Int)==6)=false:=beq_eq_false_iff_ne.2 (by omega);have n6:((p.kind:Int) != 6)=true:=by rw[bne,e6];rfl
 have e7:((p.kind:Int)==7)=false:=beq_eq_false_iff_ne.2 (by omega);have n7:((p.kind:Int) != 7)=true:=by rw[bne,e7];rfl
 have HM:=zh (show aL p=(!y&&z&&t&&(p.raw.size==16)) by rw[hM];simp[hk]);clear hM hz ht hk;cases y<;>cases z<;>cases t
 · go_enter func55,ntmps55;go_wp2_with fail;go_ret;exact⟨by rw[HM.out];rfl,zr.alloc lr _⟩
 · go_enter func55,ntmps55;go_wp2_with fail;go_ret;exact⟨by rw[HM.out];rfl,zr.alloc lr _⟩
 · go_enter func55,ntmps55;go_wp2_with fail;go_ret;exact⟨by rw[HM.out];rfl,zr.alloc lr _⟩
 · go_enter func55,ntmps55;go_wp2_with fail;go_ret;exact⟨by rw[HM.out];first | rfl | exact congrArg (fun b=>Ending.returned (.bool b)) (by rw[Bool.eq_iff_iff];simp;omega),zr.alloc lr _⟩
 · go_enter func55,ntmps55;go_wp2_with fail;go_ret;exact⟨by rw[HM.out];rfl,zr.alloc lr _⟩
 · go_enter func55,ntmps55;go_wp2_with fail;go_ret;exact⟨by rw[HM.out];rfl,zr.alloc lr _⟩
 · go_enter func55,ntmps55;go_wp2_with fail;go_ret;exact⟨by rw[HM.out];rfl,zr.alloc lr _⟩
 · go_enter func55,ntmps55;go_wp2_with fail;go_ret;exact⟨by rw[HM.out];rfl,zr.alloc lr _⟩
theorem bKl (p:Pt) (v:Value) (w:World) (hf:Fit p) (hp:PI w 0 w.heap.size p.items v) (hk:p.kind=5) :
 Calls prog 55 #[.agg #[.int .u8 p.kind,.bool p.yes,.bool p.neg,.string p.mag,.string p.raw,v]] w fun e w'=>e=.returned (.bool (aL p))∧Below w.heap.size w w':=by
 obtain⟨a,cap,rfl,_,_⟩:=hp.open;clear hp;have hm:=hf.m;have hr:=hf.r;have hl:=hf.l;have hkb:=hf.k;obtain⟨y,hy⟩:∃ y,p.yes=y:=⟨_,rfl⟩
 obtain⟨z,hz⟩:∃ z,(!p.neg&&p.mag.toList.isEmpty)=z:=⟨_,rfl⟩
 obtain⟨t,ht⟩:∃ t,p.items.isEmpty=t:=⟨_,rfl⟩
 have hM:=jT hy hz ht (decide (p.raw.size≤65536)) (by simp[hk]);have h24:=kN p.neg false p.mag ⟨#[]⟩ z (by rw[← hz];cases p.neg<;>simp);have aKe:=lV p.neg false p.mag ⟨#[]⟩ z (by rw[← hz];cases p.neg<;>simp);have hl0:((p.items.length:Int)==0)=t:=by rw[← ht];cases p.items<;>simp;omega
 have hl1:decide (0<p.items.length)=!t:=by rw[← ht];cases p.items<;>simp
 have e0:((p.kind:Int)==0)=false:=beq_eq_false_iff_ne.2 (by omega);have n0:((p.kind:Int) != 0)=true:=by rw[bne,e0];rfl
 have e1:((p.kind:Int)==1)=false:=beq_eq_false_iff_ne.2 (by omega);have n1:((p.kind:Int) != 1)=true:=by rw[bne,e1];rfl
 have e2:((p.kind:Int)==2)=false:=beq_eq_false_iff_ne.2 (by omega);have n2:((p.kind:Int) != 2)=true:=by rw[bne,e2];rfl
 have e3:((p.kind:Int)==3)=false:=beq_eq_false_iff_ne.2 (by omega);have n3:((p.kind:Int) != 3)=true:=by rw[bne,e3];rfl
 have e4:((p.kind:Int)==4)=false:=beq_eq_false_iff_ne.2 (by omega);have n4:((p.kind:Int) != 4)=true:=by rw[bne,e4];rfl
 have e5:((p.kind:Int)==5)=true:=beq_iff_eq.2 (by omega);have n5:((p.kind:Int) != 5)=false:=by rw[bne,e5];rfl
 have e6:((p.kind:Int)==6)=false:=beq_eq_false_iff_ne.2 (by omega);have n6:((p.kind:Int) != 6)=true:=by rw[bne,e6];rfl
 have e7:((p.kind:Int)==7)=false:=beq_eq_false_iff_ne.2 (by omega);have n7:((p.kind:Int) != 7)=true:=by rw[bne,e7];rfl
 have HM:=zh (show aL p=(!y&&z&&t&&(decide (p.raw.size≤65536))) by rw[hM];simp[hk]);clear hM hz ht hk;cases y<;>cases z<;>cases t
 · go_enter func55,ntmps55;go_wp2_with fail;go_ret;exact⟨by rw[HM.out];rfl,zr.alloc lr _⟩
 · go_enter func55,ntmps55;go_wp2_with fail;go_ret;exact⟨by rw[HM.out];rfl,zr.alloc lr _⟩
 · go_enter func55,ntmps55;go_wp2_with fail;go_ret;exact⟨by rw[HM.out];rfl,zr.alloc lr _⟩
 · go_enter func55,ntmps55;go_wp2_with fail;go_ret;exact⟨by rw[HM.out];first | rfl | exact congrArg (fun b=>Ending.returned (.bool b)) (by rw[Bool.eq_iff_iff];simp;omega),zr.alloc lr _⟩
 · go_enter func55,ntmps55;go_wp2_with fail;go_ret;exact⟨by rw[HM.out];rfl,zr.alloc lr _⟩
 · go_enter func55,ntmps55;go_wp2_with fail;go_ret;exact⟨by rw[HM.out];rfl,zr.alloc lr _⟩
 · go_enter func55,ntmps55;go_wp2_with fail;go_ret;exact⟨by rw[HM.out];rfl,zr.alloc lr _⟩
 · go_enter func55,ntmps55;go_wp2_with fail;go_ret;exact⟨by rw[HM.out];rfl,zr.alloc lr _⟩
theorem bKm (p:Pt) (v:Value) (w:World) (hf:Fit p) (hp:PI w 0 w.heap.size p.items v) (hk:p.kind=6) :
 Calls prog 55 #[.agg #[.int .u8 p.kind,.bool p.yes,.bool p.neg,.string p.mag,.string p.raw,v]] w fun e w'=>e=.returned (.bool (aL p))∧Below w.heap.size w w':=by
 obtain⟨a,cap,rfl,_,_⟩:=hp.open;clear hp;have hm:=hf.m;have hr:=hf.r;have hl:=hf.l;have hkb:=hf.k;obtain⟨y,hy⟩:∃ y,p.yes=y:=⟨_,rfl⟩
 obtain⟨z,hz⟩:∃ z,(!p.neg&&p.mag.toList.isEmpty)=z:=⟨_,rfl⟩
 obtain⟨t,ht⟩:∃ t,p.items.isEmpty=t:=⟨_,rfl⟩
 have hM:=jT hy hz ht (decide (p.raw.size≤65536)) (by simp[hk]);have h24:=kN p.neg false p.mag ⟨#[]⟩ z (by rw[← hz];cases p.neg<;>simp);have aKe:=lV p.neg false p.mag ⟨#[]⟩ z (by rw[← hz];cases p.neg<;>simp);have hl0:((p.items.length:Int)==0)=t:=by rw[← ht];cases p.items<;>simp;omega
 have hl1:decide (0<p.items.length)=!t:=by rw[← ht];cases p.items<;>simp
 have e0:((p.kind:Int)==0)=false:=beq_eq_false_iff_ne.2 (by omega);have n0:((p.kind:Int) != 0)=true:=by rw[bne,e0];rfl
 have e1:((p.kind:Int)==1)=false:=beq_eq_false_iff_ne.2 (by omega);have n1:((p.kind:Int) != 1)=true:=by rw[bne,e1];rfl
 have e2:((p.kind:Int)==2)=false:=beq_eq_false_iff_ne.2 (by omega);have n2:((p.kind:Int) != 2)=true:=by rw[bne,e2];rfl
 have e3:((p.kind:Int)==3)=false:=beq_eq_false_iff_ne.2 (by omega);have n3:((p.kind:Int) != 3)=true:=by rw[bne,e3];rfl
 have e4:((p.kind:Int)==4)=false:=beq_eq_false_iff_ne.2 (by omega);have n4:((p.kind:Int) != 4)=true:=by rw[bne,e4];rfl
 have e5:((p.kind:Int)==5)=false:=beq_eq_false_iff_ne.2 (by omega);have n5:((p.kind:Int) != 5)=true:=by rw[bne,e5];rfl
 have e6:((p.kind:Int)==6)=true:=beq_iff_eq.2 (by omega);have n6:((p.kind:Int) != 6)=false:=by rw[bne,e6];rfl
 have e7:((p.kind:Int)==7)=false:=beq_eq_false_iff_ne.2 (by omega);have n7:((p.kind:Int) != 7)=true:=by rw[bne,e7];rfl
 have HM:=zh (show aL p=(!y&&z&&t&&(decide (p.raw.size≤65536))) by rw[hM];simp[hk]);clear hM hz ht hk;cases y<;>cases z<;>cases t
 · go_enter func55,ntmps55;go_wp2_with fail;go_ret;exact⟨by rw[HM.out];rfl,zr.alloc lr _⟩
 · go_enter func55,ntmps55;go_wp2_with fail;go_ret;exact⟨by rw[HM.out];rfl,zr.alloc lr _⟩
 · go_enter func55,ntmps55;go_wp2_with fail;go_ret;exact⟨by rw[HM.out];rfl,zr.alloc lr _⟩
 · go_enter func55,ntmps55;go_wp2_with fail;go_ret;exact⟨by rw[HM.out];first | rfl | exact congrArg (fun b=>Ending.returned (.bool b)) (by rw[Bool.eq_iff_iff];simp;omega),zr.alloc lr _⟩
 · go_enter func55,ntmps55;go_wp2_with fail;go_ret;exact⟨by rw[HM.out];rfl,zr.alloc lr _⟩
 · go_enter func55,ntmps55;go_wp2_with fail;go_ret;exact⟨by rw[HM.out];rfl,zr.alloc lr _⟩
 · go_enter func55,ntmps55;go_wp2_with fail;go_ret;exact⟨by rw[HM.out];rfl,zr.alloc lr _⟩
 · go_enter func55,ntmps55;go_wp2_with fail;go_ret;exact⟨by rw[HM.out];rfl,zr.alloc lr _⟩
theorem bKn (p:Pt) (v:Value) (w:World) (hf:Fit p) (hp:PI w 0 w.heap.size p.items v) (hk:7<p.kind) :
 Calls prog 55 #[.agg #[.int .u8 p.kind,.bool p.yes,.bool p.neg,.string p.mag,.string p.raw,v]] w fun e w'=>e=.returned (.bool (aL p))∧Below w.heap.size w w':=by
 obtain⟨a,cap,rfl,_,_⟩:=hp.open;clear hp;have hm:=hf.m;have hr:=hf.r;have hl:=hf.l;have hkb:=hf.k;obtain⟨y,hy⟩:∃ y,p.yes=y:=⟨_,rfl⟩
 obtain⟨z,hz⟩:∃ z,(!p.neg&&p.mag.toList.isEmpty)=z:=⟨_,rfl⟩
 obtain⟨t,ht⟩:∃ t,p.items.isEmpty=t:=⟨_,rfl⟩
 have hM:=jT hy hz ht (p.raw.toList.isEmpty) (by simp[show ¬ p.kind=2 by omega,show ¬ p.kind=4 by omega,show ¬ p.kind=3 by omega,show ¬ p.kind=5 by omega,show ¬ p.kind=6 by omega,show ¬ p.kind=7 by omega]);have h24:=kN p.neg false p.mag ⟨#[]⟩ z (by rw[← hz];cases p.neg<;>simp);have aKe:=lV p.neg false p.mag ⟨#[]⟩ z (by rw[← hz];cases p.neg<;>simp);have hl0:((p.items.length:Int)==0)=t:=by rw[← ht];cases p.items<;>simp;omega
 have hl1:decide (0<p.items.length)=!t:=by rw[← ht];cases p.items<;>simp
 have e0:((p.kind:Int)==0)=false:=beq_eq_false_iff_ne.2 (by omega);have n0:((p.kind:Int) != 0)=true:=by rw[bne,e0];rfl
 have e1:((p.kind:Int)==1)=false:=beq_eq_false_iff_ne.2 (by omega);have n1:((p.kind:Int) != 1)=true:=by rw[bne,e1];rfl
 have e2:((p.kind:Int)==2)=false:=beq_eq_false_iff_ne.2 (by omega);have n2:((p.kind:Int) != 2)=true:=by rw[bne,e2];rfl
 have e3:((p.kind:Int)==3)=false:=beq_eq_false_iff_ne.2 (by omega);have n3:((p.kind:Int) != 3)=true:=by rw[bne,e3];rfl
 have e4:((p.kind:Int)==4)=false:=beq_eq_false_iff_ne.2 (by omega);have n4:((p.kind:Int) != 4)=true:=by rw[bne,e4];rfl
 have e5:((p.kind:Int)==5)=false:=beq_eq_false_iff_ne.2 (by omega);have n5:((p.kind:Int) != 5)=true:=by rw[bne,e5];rfl
 have e6:((p.kind:Int)==6)=false:=beq_eq_false_iff_ne.2 (by omega);have n6:((p.kind:Int) != 6)=true:=by rw[bne,e6];rfl
 have e7:((p.kind:Int)==7)=false:=beq_eq_false_iff_ne.2 (by omega);have n7:((p.kind:Int) != 7)=true:=by rw[bne,e7];rfl
 have HM:=zh (show aL p=false by rw[hM];simp[show ¬ p.kind≤7 by omega]);clear hM hz ht hk;cases y<;>cases z<;>cases t
 · go_enter func55,ntmps55;go_wp2_with fail;go_ret;exact⟨by rw[HM.out];rfl,zr.alloc lr _⟩
 · go_enter func55,ntmps55;go_wp2_with fail;go_ret;exact⟨by rw[HM.out];rfl,zr.alloc lr _⟩
 · go_enter func55,ntmps55;go_wp2_with fail;go_ret;exact⟨by rw[HM.out];rfl,zr.alloc lr _⟩
 · go_enter func55,ntmps55;go_wp2_with fail;go_ret;exact⟨by rw[HM.out];rfl,zr.alloc lr _⟩
 · go_enter func55,ntmps55;go_wp2_with fail;go_ret;exact⟨by rw[HM.out];rfl,zr.alloc lr _⟩
 · go_enter func55,ntmps55;go_wp2_with fail;go_ret;exact⟨by rw[HM.out];rfl,zr.alloc lr _⟩
 · go_enter func55,ntmps55;go_wp2_with fail;go_ret;exact⟨by rw[HM.out];rfl,zr.alloc lr _⟩
 · go_enter func55,ntmps55;go_wp2_with fail;go_ret;exact⟨by rw[HM.out];rfl,zr.alloc lr _⟩
