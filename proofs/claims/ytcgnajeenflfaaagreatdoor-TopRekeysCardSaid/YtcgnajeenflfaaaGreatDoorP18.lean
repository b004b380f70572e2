import Derived.Stop.IfaceNil
import Derived.Test.YtcgnajeenflfaaaGreatDoorP17
set_option maxRecDepth 100000
set_option maxHeartbeats 4000000
set_option linter.all false
open Go.Proofs.Tryz Go.RowKit
namespace Go.Proofs.YtcgnajeenflfaaaGreatDoor
namespace Lo
open D (aF)
theorem aXx (t:ByteArray) (hmax:t.size≤1048576) (w:World):Calls prog 160 #[.string t,.int .i64 16,.int .i64 16] w fun e w'=>nS 65535 t.data.toList e∧Below w.heap.size w w':=by
 by_cases h:t.size=0
 · obtain⟨⟨l⟩⟩:=t;obtain rfl:l=[]:=by cases l<;>simp_all [ByteArray.size]
   refine(aJy 16 16 w).mono ?_;rintro e w' ⟨rfl,rfl⟩;exact⟨.bad,zr⟩
 · refine(bKc t h (by omega) w).mono ?_;rintro e w' ⟨h1,rfl⟩;exact⟨h1,Lib.bytesWorld_below _ _ _⟩
theorem aBr (t:ByteArray) (hmax:t.size≤1048576) (w:World):Calls prog 160 #[.string t,.int .i64 16,.int .i64 32] w fun e w'=>nS 4294967295 t.data.toList e∧Below w.heap.size w w':=by
 by_cases h:t.size=0
 · obtain⟨⟨l⟩⟩:=t;obtain rfl:l=[]:=by cases l<;>simp_all [ByteArray.size]
   refine(aJy 16 32 w).mono ?_;rintro e w' ⟨rfl,rfl⟩;exact⟨.bad,zr⟩
 · refine(bKd t h (by omega) w).mono ?_;rintro e w' ⟨h1,rfl⟩;exact⟨h1,Lib.bytesWorld_below _ _ _⟩
def aBs (w:World):Prop:=(∃ ev,w.cell? ⟨3,0,none⟩=some ev∧(ev=.nilIface∨∃ te pe,ev=.iface te pe))∧∃ ev,w.cell? ⟨4,0,none⟩=some ev∧(ev=.nilIface∨∃ te pe,ev=.iface te pe)
theorem aBs.later {w w':World} (h:aBs w) (hb:Below w.heap.size w w'):aBs w':=by
 obtain⟨⟨e1,a1,b1⟩,e2,a2,b2⟩:=h;exact⟨⟨e1,(hb.cell (p:=⟨3,0,none⟩) (World.block_lt_of_cell? _ _ a1)).trans a1,b1⟩,e2,(hb.cell (p:=⟨4,0,none⟩) (World.block_lt_of_cell? _ _ a2)).trans a2,b2⟩
theorem aFb (fn s:ByteArray) (base bs k:Int) (w:World) (hs:s.size≤1048576) (hk:k=1∨k=2) (hg:aBs w) :
 Calls prog 117 #[.string fn,.string s,.int .i64 base,.int .i64 bs,.iface 275 (.int .i64 k)] w fun e w'=>∃ T V,e=.returned (.iface T V)∧Below w.heap.size w w':=by
 obtain⟨⟨e1,a1,b1⟩,e2,a2,b2⟩:=hg;rcases hk with rfl | rfl
 · refine(Tryz.strconv_toError_range fn s base bs e2 w (by omega) a2 b2).mono ?_;rintro e w' ⟨N,rfl,_,_,hb⟩;exact⟨_,_,rfl,hb⟩
 · refine(Tryz.strconv_toError_syntax fn s base bs e1 w (by omega) a1 b1).mono ?_;rintro e w' ⟨N,rfl,_,_,hb⟩;exact⟨_,_,rfl,hb⟩
theorem aDy (t:ByteArray) (hmax:t.size≤1048576) (w:World) (hg:aBs w):Calls prog 167 #[.string t,.int .i64 16,.int .i64 16] w fun e w'=>aQt .u64 (fun a=>0≤a∧a≤65535∧a=iL t.data.toList) e∧Below w.heap.size w w':=by
 have HG:=zh hg;clear hg;go_enter func167,ntmps167;go_wp2_with fail;refine(aXx t hmax w).mono ?_;rintro e w1 ⟨h | h,hb⟩
 · obtain⟨a,rfl,h0,h1,h2⟩:=h;have HX:=zh (And.intro h0 (And.intro h1 h2));clear h0 h1 h2;go_wp2_with fail;go_ret2
   exact⟨.inl ⟨a,rfl,by have:=HX.out;unfold aF;omega,HX.out⟩,hb⟩
 · obtain⟨a,k,rfl,hk⟩:=h;have HB:=zh hb;have HK:=zh hk;have hk':k=1∨k=2:=by omega
   have HT:=zh (aFb ⟨#[80,97,114,115,101,85,105,110,116]⟩ t 16 16 k w1 hmax hk' (HG.out.later hb));clear hk hb hk';go_wp2_with fail;refine HT.out.mono ?_;rintro e w2 ⟨T,V,rfl,hb2⟩;go_wp2_with fail;go_ret2
   exact⟨.inr ⟨a,T,V,rfl,by have:=HK.out;unfold aF;omega⟩,HB.out.trans (hb2.mono HB.out.size)⟩
def aBt (t:ByteArray) (e:Ending):Prop :=
 (∃ a:Int,e=.returned (.tuple #[.int .i64 a,.nilIface])∧aF a∧a=aDx t.data.toList)∨∃ a k:Int,e=.returned (.tuple #[.int .i64 a,.iface 275 (.int .i64 k)])∧aF a∧(k=1∨k=2)
theorem wQ {t:ByteArray} (hp:0<t.size):t.data.toList=t[0]::(t.extract 1 t.size).data.toList∧(t.extract 1 t.size).size≤t.size:=by
 obtain⟨⟨l⟩⟩:=t;cases l with
 | nil=>cases hp
 | cons c r =>
  constructor
  · have h2:(ByteArray.extract ⟨⟨c::r⟩⟩ 1 (ByteArray.size ⟨⟨c::r⟩⟩)).data.toList=r:=by
     rw[ByteArray.data_extract,Array.toList_extract];simp[ByteArray.size,List.extract]
    rw[h2];rfl
  · rw[ByteArray.size_extract];omega
theorem bCp (t:ByteArray) (hmax:t.size≤1048576) (w:World) (hp:0<t.size) (hc:t[0]=43):Calls prog 120 #[.string t,.int .i64 16,.int .i64 32] w fun e w'=>aBt t e∧Below w.heap.size w w':=by
 have hemp:t.toList.isEmpty=false:=by
  rw[← decide_eq_emptyBytes];exact decide_eq_false (fun e=>by rw[e] at hp;cases hp)
 have hcut:IntKind.u64.wrap 2147483648=2147483648:=by rw[IntKind.wrap_u64];decide
 have hn2:∀ w:World,(binOp .neq 36 (.iface 275 (.int .i64 2)) (.iface 275 (.int .i64 1))).run prog w=.ok (.bool true) w:=fun _=>by kernel_rfl
 have hn1:∀ w:World,(binOp .neq 36 (.iface 275 (.int .i64 1)) (.iface 275 (.int .i64 1))).run prog w=.ok (.bool false) w:=fun _=>by kernel_rfl
 have HS:=zh (show aDx t.data.toList =  iL (t.extract 1 t.size).data.toList from by rw[(wQ hp).1,hc];rfl);have HP:=zh (aBr (t.extract 1 t.size) (by have:=(wQ hp).2;omega) w);have hc2:((t[0].toNat:Int)==43)=true:=by rw[hc];rfl
 clear hc;go_enter func120,ntmps120;go_wp2_with fail;refine HP.out.mono ?_;rintro e w1 ⟨h | h,hb⟩
 · obtain⟨a,rfl,h0,h1,h2⟩:=h;have HX:=zh h2;have HB:=zh hb;clear h2 hb HP;by_cases hbig:2147483648≤a
   · go_wp2_with fail;go_ret2
     exact⟨.inr ⟨_,1,rfl,by unfold aF;decide,.inl rfl⟩,HB.out⟩
   · have hsm:a≤2147483647:=by omega
     clear hbig h1;go_wp2_with fail;go_ret2
     exact⟨.inl ⟨_,rfl,by unfold aF;omega,by rw[HS.out,← HX.out]⟩,HB.out⟩
 · obtain⟨a,k,rfl,⟨rfl,rfl⟩ | ⟨rfl,rfl⟩⟩:=h
   · have HB:=zh hb;clear hb HP;go_wp2_with fail;go_ret2
     exact⟨.inr ⟨_,1,rfl,by unfold aF;decide,.inl rfl⟩,HB.out⟩
   · have HB:=zh hb;clear hb HP;go_wp2_with fail;go_ret2
     exact⟨.inr ⟨_,2,rfl,by unfold aF;decide,.inr rfl⟩,HB.out⟩
theorem aXy (t:ByteArray) (hmax:t.size≤1048576) (w:World) (hp:0<t.size) (hc:t[0]=45):Calls prog 120 #[.string t,.int .i64 16,.int .i64 32] w fun e w'=>aBt t e∧Below w.heap.size w w':=by
 have hemp:t.toList.isEmpty=false:=by
  rw[← decide_eq_emptyBytes];exact decide_eq_false (fun e=>by rw[e] at hp;cases hp)
 have hcut:IntKind.u64.wrap 2147483648=2147483648:=by rw[IntKind.wrap_u64];decide
 have hn2:∀ w:World,(binOp .neq 36 (.iface 275 (.int .i64 2)) (.iface 275 (.int .i64 1))).run prog w=.ok (.bool true) w:=fun _=>by kernel_rfl
 have hn1:∀ w:World,(binOp .neq 36 (.iface 275 (.int .i64 1)) (.iface 275 (.int .i64 1))).run prog w=.ok (.bool false) w:=fun _=>by kernel_rfl
 have HS:=zh (show aDx t.data.toList=- iL (t.extract 1 t.size).data.toList from by rw[(wQ hp).1,hc];rfl);have HP:=zh (aBr (t.extract 1 t.size) (by have:=(wQ hp).2;omega) w);have hc2:((t[0].toNat:Int)==43)=false:=by rw[hc];rfl
 have hc3:((t[0].toNat:Int)==45)=true:=by rw[hc];rfl
 clear hc;go_enter func120,ntmps120;go_wp2_with fail;refine HP.out.mono ?_;rintro e w1 ⟨h | h,hb⟩
 · obtain⟨a,rfl,h0,h1,h2⟩:=h;have HX:=zh h2;have HB:=zh hb;clear h2 hb HP;by_cases hbig:2147483648<a
   · go_wp2_with fail;go_ret2
     exact⟨.inr ⟨_,1,rfl,by unfold aF;decide,.inl rfl⟩,HB.out⟩
   · have hsm:a≤2147483648:=by omega
     clear hbig h1;go_wp2_with fail;go_ret2
     exact⟨.inl ⟨_,rfl,by unfold aF;omega,by rw[HS.out,← HX.out]⟩,HB.out⟩
 · obtain⟨a,k,rfl,⟨rfl,rfl⟩ | ⟨rfl,rfl⟩⟩:=h
   · have HB:=zh hb;clear hb HP;go_wp2_with fail;go_ret2
     exact⟨.inr ⟨_,1,rfl,by unfold aF;decide,.inl rfl⟩,HB.out⟩
   · have HB:=zh hb;clear hb HP;go_wp2_with fail;go_ret2
     exact⟨.inr ⟨_,2,rfl,by unfold aF;decide,.inr rfl⟩,HB.out⟩
theorem bCq (t:ByteArray) (hmax:t.size≤1048576) (w:World) (hp:0<t.size) (hc:t[0]≠43) (hd:t[0]≠45):Calls prog 120 #[.string t,.int .i64 16,.int .i64 32] w fun e w'=>aBt t e∧Below w.heap.size w w':=by
 have hemp:t.toList.isEmpty=false:=by
  rw[← decide_eq_emptyBytes];exact decide_eq_false (fun e=>by rw[e] at hp;cases hp)
 have hcut:IntKind.u64.wrap 2147483648=2147483648:=by rw[IntKind.wrap_u64];decide
 have hn2:∀ w:World,(binOp .neq 36 (.iface 275 (.int .i64 2)) (.iface 275 (.int .i64 1))).run prog w=.ok (.bool true) w:=fun _=>by kernel_rfl
 have hn1:∀ w:World,(binOp .neq 36 (.iface 275 (.int .i64 1)) (.iface 275 (.int .i64 1))).run prog w=.ok (.bool false) w:=fun _=>by kernel_rfl
 have HS:=zh (show aDx t.data.toList =  iL (t).data.toList from by rw[(wQ hp).1];exact(if_neg hc).trans (if_neg hd));have HP:=zh (aBr (t) hmax w);have hc2:((t[0].toNat:Int)==43)=false:=by simp only [beq_eq_false_iff_ne,ne_eq];intro h;exact hc (UInt8.toNat_inj.1 (by show t[0].toNat=43;omega))
 have hc3:((t[0].toNat:Int)==45)=false:=by simp only [beq_eq_false_iff_ne,ne_eq];intro h;exact hd (UInt8.toNat_inj.1 (by show t[0].toNat=45;omega))
 clear hc hd;go_enter func120,ntmps120;go_wp2_with fail;refine HP.out.mono ?_;rintro e w1 ⟨h | h,hb⟩
 · obtain⟨a,rfl,h0,h1,h2⟩:=h;have HX:=zh h2;have HB:=zh hb;clear h2 hb HP;by_cases hbig:2147483648≤a
   · go_wp2_with fail;go_ret2
     exact⟨.inr ⟨_,1,rfl,by unfold aF;decide,.inl rfl⟩,HB.out⟩
   · have hsm:a≤2147483647:=by omega
     clear hbig h1;go_wp2_with fail;go_ret2
     exact⟨.inl ⟨_,rfl,by unfold aF;omega,by rw[HS.out,← HX.out]⟩,HB.out⟩
 · obtain⟨a,k,rfl,⟨rfl,rfl⟩ | ⟨rfl,rfl⟩⟩:=h
   · have HB:=zh hb;clear hb HP;go_wp2_with fail;go_ret2
     exact⟨.inr ⟨_,1,rfl,by unfold aF;decide,.inl rfl⟩,HB.out⟩
   · have HB:=zh hb;clear hb HP;go_wp2_with fail;go_ret2
     exact⟨.inr ⟨_,2,rfl,by unfold aF;decide,.inr rfl⟩,HB.out⟩
theorem bCr (w:World):Calls prog 120 #[.string ⟨#[]⟩,.int .i64 16,.int .i64 32] w fun e w'=>aBt ⟨#[]⟩ e∧Below w.heap.size w w':=by
 go_enter func120,ntmps120;go_wp2_with fail;go_ret2
 exact⟨.inr ⟨0,2,rfl,by unfold aF;decide,.inr rfl⟩,zr⟩
theorem bGk (t:ByteArray) (hmax:t.size≤1048576) (w:World):Calls prog 120 #[.string t,.int .i64 16,.int .i64 32] w fun e w'=>aBt t e∧Below w.heap.size w w':=by
 by_cases h:t.size=0
 · obtain⟨⟨l⟩⟩:=t;obtain rfl:l=[]:=by cases l<;>simp_all [ByteArray.size]
   exact bCr w
 · have hp:0<t.size:=by omega
   by_cases h1:t[0]=43
   · exact bCp t hmax w hp h1
   · by_cases h2:t[0]=45
     · exact aXy t hmax w hp h2
     · exact bCq t hmax w hp h1 h2
theorem wR (t:ByteArray) (hmax:t.size≤1048576) (w:World) (hg:aBs w):Calls prog 92 #[.string t,.int .i64 16,.int .i64 32] w fun e w'=>aQt .i64 (fun a=>a=aDx t.data.toList) e∧Below w.heap.size w w':=by
 have HG:=zh hg;clear hg;go_enter func92,ntmps92;go_wp2_with fail;refine(bGk t hmax w).mono ?_;rintro e w1 ⟨h | h,hb⟩
 · obtain⟨a,rfl,h1,h2⟩:=h;have HX:=zh (And.intro h1 h2);clear h1 h2;go_wp2_with fail;go_ret2
   exact⟨.inl ⟨a,rfl,HX.out.1,HX.out.2⟩,hb⟩
 · obtain⟨a,k,rfl,h1,hk⟩:=h;have HB:=zh hb;have HI:=zh h1;have HT:=zh (aFb ⟨#[80,97,114,115,101,73,110,116]⟩ t 16 32 k w1 hmax hk (HG.out.later hb));clear hk hb h1;go_wp2_with fail;refine HT.out.mono ?_;rintro e w2 ⟨T,V,rfl,hb2⟩;go_wp2_with fail;go_ret2
   exact⟨.inr ⟨a,T,V,rfl,HI.out⟩,HB.out.trans (hb2.mono HB.out.size)⟩
