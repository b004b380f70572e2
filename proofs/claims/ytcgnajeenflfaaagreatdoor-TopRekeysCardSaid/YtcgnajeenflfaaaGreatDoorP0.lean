import Derived.OrdersHeld
import Derived.Lib.Hide
import Derived.WalkKit
set_option linter.all false
open Go.RowKit
namespace Go.Proofs.YtcgnajeenflfaaaGreatDoor
theorem zh{p:Prop}(h:p):RowKit.Hid p:=Lib.hid h
theorem lr{n:Nat}:n≤n:=Nat.le_refl n
theorem zr{n:Nat}{w:World}:Below n w w:=Below.refl n w
theorem tq{α β γ}{X:α→β→γ→Prop}:∀ c a w,X c a w→X c a w:=fun _ _ _ h=>h
theorem tx{P:Program}{ops:Array Oper}{Q:Exit→Act→World→Prop}{md:Region.Mode}{S:World→Prop}(i:Nat){oi:Oper}(v:Value){fuel:Nat}{listed:Array Bool}{a:Act}{w:World}(hi:ops[i]?=some oi)
 (hs:(Region.noSelect ops && (Region.free md ops listed i && (Region.ready md ops listed).contains i))=true)
 (hQ:∀ c a w,Q (.panic c) (a.put oi.dst v) w→Q (.panic c) a w) (hw:Region.wanted oi (yielded ops a.tmps)=true) (hy:∀ w,S w→(execOp a.eval oi).run P w=.ok (.value v) w) (hS:S w)
 (h:wpAnyH P md ops Q S fuel (listed.setIfInBounds i true) (a.put oi.dst v) w):wpAnyH P md ops Q S (fuel+1) listed a w:=
 have k:=Bool.and_eq_true_iff.1 hs;have l:=Bool.and_eq_true_iff.1 k.2;wpAnyH_take hi k.1 l.1 l.2 hQ (.inl ⟨hw,hy⟩) hS h
