import Derived.Test.YtcgnajeenflfaaaGreatDoorP31
set_option maxRecDepth 100000
set_option maxHeartbeats 4000000
set_option linter.all false
open Go.Proofs.Tryz Go.RowKit
namespace Go.Proofs.YtcgnajeenflfaaaGreatDoor
namespace Sc
open V (Same)
theorem nU (c:UInt8) (hc:c≠0) (w:World):Calls prog 16 #[.int .u8 (c.toNat:Int)] w fun e w'=>e=.returned (.agg #[.int .u8 2,.bool false,.bool false,.string ⟨#[c]⟩,.string ⟨#[]⟩,.slice none 0 0])∧Below w.heap.size w w':=by
 have hcv:=aCq c;have q1:((c.toNat:Int)==0)=false:=by
  have:c.toNat≠0:=fun e=>hc (UInt8.toNat_inj.1 (by rw[e];rfl))
  simp;omega
 clear hc;go_enter func16,ntmps16;go_wp2_with fail;refine bodyPost_ret (v:=.agg #[.int .u8 2,.bool false,.bool false,.string ⟨#[c]⟩,.string ⟨#[]⟩,.slice none 0 0]) (by simp[results,Tryz.f16,go_sem]) rfl ?_;exact⟨rfl,(zr.alloc lr _).alloc (by simp) _⟩
theorem qL (a:Option Addr) (n c:Nat) (w:World):Calls prog 15 #[.slice a n c] w fun e w'=>e=.returned (.agg #[.int .u8 7,.bool false,.bool false,.string ⟨#[]⟩,.string ⟨#[]⟩,.slice a n c])∧Below w.heap.size w w':=by
 go_enter func15,ntmps15;go_wp2_with fail;refine bodyPost_ret (v:=.agg #[.int .u8 7,.bool false,.bool false,.string ⟨#[]⟩,.string ⟨#[]⟩,.slice a n c]) (by simp[results,Tryz.f15,go_sem]) rfl ?_;exact⟨rfl,zr.alloc lr _⟩
def nV:Fd:=.mk ⟨#[97]⟩ 2 true 0 false false ⟨#[]⟩ false ⟨#[]⟩ 0 ⟨0,false,false⟩ []
def nW:Fd:=.mk ⟨#[116]⟩ 6 false 0 false false ⟨#[]⟩ false ⟨#[]⟩ 0 ⟨1,false,false⟩ []
theorem aZc {w:World} {B:Nat} (hB:aC w B 79 #[.string ⟨#[97]⟩,.int .u8 2,.bool true,.int .u8 0,.bool false,.bool false,.string ⟨#[]⟩,.bool false,.string ⟨#[]⟩,.int .i64 0,.int .i64 0,.bool false,.bool false,.slice none 0 0,.string ⟨#[116]⟩,.int .u8 6,.bool false,.int .u8 0,.bool false,.bool false,.string ⟨#[]⟩,.bool false,.string ⟨#[]⟩,.int .i64 0,.int .i64 1,.bool false,.bool false,.slice none 0 0]):FI w 0 (B+1) [nV,nW] (.slice (some ⟨B,0,none⟩) 2 2):=by
 have c0:lG w B 0 nV (.slice none 0 0):=by
  intro k hk;match k,hk with
   | 0,_=>exact hB.cell 0
   | 1,_=>exact hB.cell 1
   | 2,_=>exact hB.cell 2
   | 3,_=>exact hB.cell 3
   | 4,_=>exact hB.cell 4
   | 5,_=>exact hB.cell 5
   | 6,_=>exact hB.cell 6
   | 7,_=>exact hB.cell 7
   | 8,_=>exact hB.cell 8
   | 9,_=>exact hB.cell 9
   | 10,_=>exact hB.cell 10
   | 11,_=>exact hB.cell 11
   | 12,_=>exact hB.cell 12
   | 13,_=>exact hB.cell 13
   | n+14,h=>exact absurd h (by omega)
 have c1:lG w B 14 nW (.slice none 0 0):=by
  intro k hk;match k,hk with
   | 0,_=>exact hB.cell 14
   | 1,_=>exact hB.cell 15
   | 2,_=>exact hB.cell 16
   | 3,_=>exact hB.cell 17
   | 4,_=>exact hB.cell 18
   | 5,_=>exact hB.cell 19
   | 6,_=>exact hB.cell 20
   | 7,_=>exact hB.cell 21
   | 8,_=>exact hB.cell 22
   | 9,_=>exact hB.cell 23
   | 10,_=>exact hB.cell 24
   | 11,_=>exact hB.cell 25
   | 12,_=>exact hB.cell 26
   | 13,_=>exact hB.cell 27
   | n+14,h=>exact absurd h (by omega)
 have ff0:jY nV:=⟨by decide,by decide,by decide,by decide,by decide,(by unfold D.aF;decide),(by unfold D.aF;decide),by decide⟩
 have ff1:jY nW:=⟨by decide,by decide,by decide,by decide,by decide,(by unfold D.aF;decide),(by unfold D.aF;decide),by decide⟩
 refine FI.mk (w:=w) [nV,nW] (some ⟨B,0,none⟩) 2 (fun _=>.slice none 0 0) lr (fun j hj=>?_) (fun j hj=>?_) (fun j hj=>?_)
 · match j,hj with
   | 0,_=>exact⟨B,0,rfl,Nat.zero_le _,Nat.lt_succ_self _,c0⟩
   | 1,_=>exact⟨B,0,rfl,Nat.zero_le _,Nat.lt_succ_self _,c1⟩
 · match j,hj with
   | 0,_=>exact ff0
   | 1,_=>exact ff1
 · match j,hj with
   | 0,_=>exact FI.nil _ _ _
   | 1,_=>exact FI.nil _ _ _
theorem lY (w:World):Calls prog 17 #[] w fun e w'=>∃ B,B<w'.heap.size∧e=.returned (.agg #[.int .i64 200,.slice (some ⟨B,0,none⟩) 2 2])∧FI w' 0 w'.heap.size [nV,nW] (.slice (some ⟨B,0,none⟩) 2 2)∧Below w.heap.size w w':=by
 go_enter func17,ntmps17;go_wp2_with fail;refine bodyPost_ret (v:=.agg #[.int .i64 200,.slice (some ⟨w.heap.size+1,0,none⟩) 2 2]) (by simp[results,Tryz.f17,go_sem]) rfl ?_;have hB:=aC.new (w.alloc (.cells #[.int .i64 200,.slice (some ⟨w.heap.size+1,0,none⟩) 2 2] 26)) 79 #[.string ⟨#[97]⟩,.int .u8 2,.bool true,.int .u8 0,.bool false,.bool false,.string ⟨#[]⟩,.bool false,.string ⟨#[]⟩,.int .i64 0,.int .i64 0,.bool false,.bool false,.slice none 0 0,.string ⟨#[116]⟩,.int .u8 6,.bool false,.int .u8 0,.bool false,.bool false,.string ⟨#[]⟩,.bool false,.string ⟨#[]⟩,.int .i64 0,.int .i64 1,.bool false,.bool false,.slice none 0 0];rw[World.size_alloc] at hB;exact⟨w.heap.size+1,hB.lt,rfl,(aZc hB).wide lr hB.lt,(zr.alloc lr _).alloc (by simp) _⟩
