import Derived.Test.YtcgnajeenflfaaaGreatDoorP4
set_option maxRecDepth 100000
set_option maxHeartbeats 4000000
set_option linter.all false
open Go.Proofs.Tryz Go.RowKit
namespace Go.Proofs.YtcgnajeenflfaaaGreatDoor
namespace Ta
theorem iC (x:Int) (w:World):Calls prog 115 #[.int .i64 x] w fun e w'=>e=.returned (.bool (YtcgnajeenflfaaaGreatDoor.D.dU x))∧w'=w:=by
 by_cases h1:44032≤x
 · by_cases h2:x<55204
   · rw[show YtcgnajeenflfaaaGreatDoor.D.dU x=true by simp[YtcgnajeenflfaaaGreatDoor.D.dU];omega];have d0:decide (44032≤x)=true:=by simp;omega
     have d1:decide (x<55204)=true:=by simp;omega
     clear h1 h2;go_enter func115,ntmps115;go_wp2_with fail;go_ret;exact⟨rfl,rfl⟩
   · rw[show YtcgnajeenflfaaaGreatDoor.D.dU x=false by simp[YtcgnajeenflfaaaGreatDoor.D.dU];omega];have d0:decide (44032≤x)=true:=by simp;omega
     have d1:decide (x<55204)=false:=by simp;omega
     clear h1 h2;go_enter func115,ntmps115;go_wp2_with fail;go_ret;exact⟨rfl,rfl⟩
 · rw[show YtcgnajeenflfaaaGreatDoor.D.dU x=false by simp[YtcgnajeenflfaaaGreatDoor.D.dU];omega];have d0:decide (44032≤x)=false:=by simp;omega
   clear h1;go_enter func115,ntmps115;go_wp2_with fail;go_ret;exact⟨rfl,rfl⟩
def El.fits (x:El):Prop:=(0≤x.p∧x.p≤65535)∧(0≤x.s∧x.s≤65535)∧(0≤x.t∧x.t≤65535)
def zJ (x:El) (w:World) (e:Ending) (w':World):Prop:=(∃ b:Bool,e=.returned (.bool b)∧(b=true→x.fits))∧Below w.heap.size w w'
theorem aQh (x:El) (w:World) (hx:x.fits):Calls prog 64 #[.agg #[.bool x.v,.int .i64 x.p,.int .i64 x.s,.int .i64 x.t]] w (zJ x w):=by
 obtain⟨v,p,s,t⟩:=x;obtain⟨⟨p1,p2⟩,⟨s1,s2⟩,t1,t2⟩:=hx;simp only at p1 p2 s1 s2 t1 t2;have HX:=zh (show El.fits ⟨v,p,s,t⟩ from⟨⟨p1,p2⟩,⟨s1,s2⟩,t1,t2⟩);have a1:decide (p<0)=false:=decide_eq_false (by omega);have a2:decide (65535<p)=false:=decide_eq_false (by omega);have a3:decide (s<0)=false:=decide_eq_false (by omega);have a4:decide (65535<s)=false:=decide_eq_false (by omega);have a5:decide (t<0)=false:=decide_eq_false (by omega);have a6:decide (65535<t)=false:=decide_eq_false (by omega);clear p1 p2 s1 s2 t1 t2;go_enter func64,ntmps64;go_wp2_with fail;refine wp_loop_rounds 4 ?_;rw[rounds_succ];go_wp2_with fail;rw[rounds_succ];go_wp2_with fail;rw[rounds_succ];go_wp2_with fail;rw[rounds_succ];obtain⟨b1,hb1⟩:∃ b,decide (p≤64319)=b:=⟨_,rfl⟩
 obtain⟨b2,hb2⟩:∃ b,(p==0)=b:=⟨_,rfl⟩
 obtain⟨b3,hb3⟩:∃ b,(s != 0)=b:=⟨_,rfl⟩
 obtain⟨b4,hb4⟩:∃ b,(s==0)=b:=⟨_,rfl⟩
 obtain⟨b5,hb5⟩:∃ b,(t != 0)=b:=⟨_,rfl⟩
 obtain⟨b6,hb6⟩:∃ b,(p != 0)=b:=⟨_,rfl⟩
 cases b1<;>cases b2<;>cases b3<;>cases b4<;>cases b5<;>cases b6<;>cases v;all_goals
  go_wp2_with fail;go_ret;exact⟨⟨_,rfl,fun _=>HX.out⟩,(zr.alloc lr _).alloc (by simp) _⟩
theorem aWb (x:El) (w:World) (hx:¬ x.fits):Calls prog 64 #[.agg #[.bool x.v,.int .i64 x.p,.int .i64 x.s,.int .i64 x.t]] w (zJ x w):=by
 obtain⟨v,p,s,t⟩:=x;simp only;by_cases hp1:p<0
 · have ap1:decide (p<0)=true:=decide_eq_true hp1;clear hx;go_enter func64,ntmps64;go_wp2_with fail;refine wp_loop_rounds 4 ?_;rw[rounds_succ];go_wp2_with fail;go_ret;exact⟨⟨_,rfl,fun h=>by cases h⟩,(zr.alloc lr _).alloc (by simp) _⟩
 have ap1:decide (p<0)=false:=decide_eq_false hp1;by_cases hp2:65535<p
 · have ap2:decide (65535<p)=true:=decide_eq_true hp2;clear hx;go_enter func64,ntmps64;go_wp2_with fail;refine wp_loop_rounds 4 ?_;rw[rounds_succ];go_wp2_with fail;go_ret;exact⟨⟨_,rfl,fun h=>by cases h⟩,(zr.alloc lr _).alloc (by simp) _⟩
 have ap2:decide (65535<p)=false:=decide_eq_false hp2;by_cases hs1:s<0
 · have as1:decide (s<0)=true:=decide_eq_true hs1;clear hx;go_enter func64,ntmps64;go_wp2_with fail;refine wp_loop_rounds 4 ?_;rw[rounds_succ];go_wp2_with fail;rw[rounds_succ];go_wp2_with fail;go_ret;exact⟨⟨_,rfl,fun h=>by cases h⟩,(zr.alloc lr _).alloc (by simp) _⟩
 have as1:decide (s<0)=false:=decide_eq_false hs1;by_cases hs2:65535<s
 · have as2:decide (65535<s)=true:=decide_eq_true hs2;clear hx;go_enter func64,ntmps64;go_wp2_with fail;refine wp_loop_rounds 4 ?_;rw[rounds_succ];go_wp2_with fail;rw[rounds_succ];go_wp2_with fail;go_ret;exact⟨⟨_,rfl,fun h=>by cases h⟩,(zr.alloc lr _).alloc (by simp) _⟩
 have as2:decide (65535<s)=false:=decide_eq_false hs2;by_cases ht1:t<0
 · have at1:decide (t<0)=true:=decide_eq_true ht1;clear hx;go_enter func64,ntmps64;go_wp2_with fail;refine wp_loop_rounds 4 ?_;rw[rounds_succ];go_wp2_with fail;rw[rounds_succ];go_wp2_with fail;rw[rounds_succ];go_wp2_with fail;go_ret;exact⟨⟨_,rfl,fun h=>by cases h⟩,(zr.alloc lr _).alloc (by simp) _⟩
 have at1:decide (t<0)=false:=decide_eq_false ht1;by_cases ht2:65535<t
 · have at2:decide (65535<t)=true:=decide_eq_true ht2;clear hx;go_enter func64,ntmps64;go_wp2_with fail;refine wp_loop_rounds 4 ?_;rw[rounds_succ];go_wp2_with fail;rw[rounds_succ];go_wp2_with fail;rw[rounds_succ];go_wp2_with fail;go_ret;exact⟨⟨_,rfl,fun h=>by cases h⟩,(zr.alloc lr _).alloc (by simp) _⟩
 have at2:decide (65535<t)=false:=decide_eq_false ht2;exact absurd (⟨⟨(by omega:0≤p),(by omega:p≤65535)⟩,⟨(by omega:0≤s),(by omega:s≤65535)⟩,(by omega:0≤t),(by omega:t≤65535)⟩:El.fits ⟨v,p,s,t⟩) hx
theorem aFz (x:El) (w:World):Calls prog 64 #[.agg #[.bool x.v,.int .i64 x.p,.int .i64 x.s,.int .i64 x.t]] w (zJ x w):=by
 by_cases h:x.fits
 · exact aQh x w h
 · exact aWb x w h
