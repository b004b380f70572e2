import Derived.Test.YtcgnajeenflfaaaGreatDoorP30
set_option maxRecDepth 100000
set_option maxHeartbeats 4000000
set_option linter.all false
open Go.Proofs.Tryz Go.RowKit
namespace Go.Proofs.YtcgnajeenflfaaaGreatDoor
namespace Sc
open V (Same Pt VI mayB mayB_ok has_Number_truth has_Number_whole has_Number_row has_Number_tuple has_Raw_truth has_Raw_row has_List_truth has_List_whole has_List_row has_List_tuple num_whole bytes_row part_truth)
open We (Co TblAt WfT keyM)
open D (Dm Wf)
open Ta (Tm)
def StrPost (l:List UInt8) (w:World) (e:Ending) (w':World):Prop:=e=.returned (.string ⟨l.toArray⟩)∧Below w.heap.size w w'
theorem pay_truth (f:Fd) (y:Bool) (a:Option Addr) (n c:Nat) (t:Addr) (w:World):Calls prog 102 #[.pointer (some t),.agg (fcells f (.slice a n c)).toArray,.iface 148 (.agg #[.bool y])] w (StrPost [if y then 1 else 0] w):=by
 rw[fcells_14]
 have t1:=has_Number_truth (.agg #[.bool y])
 have t2:=has_List_truth (.agg #[.bool y])
 have t3:=has_Raw_truth (.agg #[.bool y])
 have m1:∀ w:World,(method 512 148 (.agg #[.bool y]) "Part").run prog w=.ok (283,.agg #[.bool y]) w:=fun _=>by kernel_rfl
 have HP:=zh (fun w=>part_truth y w)
 have hfd:∀ (y:Bool) (w:World),(Instr.field 57 (.agg #[.int .u8 1,.bool y,.bool false,.string ⟨#[]⟩,.string ⟨#[]⟩,.slice none 0 0]) 1).run prog w=.ok (.bool y) w:=fun _ _=>by kernel_rfl
 cases y
 all_goals
  go_enter func102,ntmps102
  go_wp2_with (go_at_call 283;refine(HP.out _).mono ?_;rintro e w1 ⟨rfl,hb1⟩;have HB:=zh ((zr.alloc lr _).trans (hb1.mono (by simp))))
  go_ret
  exact⟨rfl,HB.out⟩
theorem pay_whole (f:Fd) (b:Bool) (m:ByteArray) (hb:chk b m.toList=0) (a:Option Addr) (n c:Nat) (t:Addr) (w:World):Calls prog 102 #[.pointer (some t),.agg (fcells f (.slice a n c)).toArray,.iface 220 (.agg #[.bool b,.string m])] w (StrPost (putBytes b m.toList) w):=by
 rw[fcells_14]
 have t1:=has_Number_whole (.agg #[.bool b,.string m])
 have m1:∀ w:World,(method 512 220 (.agg #[.bool b,.string m]) "Num").run prog w=.ok (301,.agg #[.bool b,.string m]) w:=fun _=>by kernel_rfl
 have HP:=zh (fun w=>put_ok b m w hb)
 go_enter func102,ntmps102
 go_wp2_with (first
  | (go_at_call 301;refine(num_whole b m _).mono ?_;rintro e w1 ⟨rfl,hb1⟩;have HB:=zh ((zr.alloc lr _).trans (hb1.mono (by simp))))
  | (go_at_call 127;refine(HP.out _).mono ?_;rintro e w2 ⟨p,rfl,hp,hb2⟩;have HB2:=zh (HB.out.trans (hb2.mono HB.out.size))))
 go_ret
 refine⟨?_,HB2.out⟩
 rw[← hp.out,mk_toList]
 rfl
theorem pay_row (f:Fd) (k:Nat) (r:ByteArray) (L:List UInt8) (a:Option Addr) (n c:Nat) (t:Addr) (w:World) (HR:∀ w':World,Below w.heap.size w w'→Calls prog 128 #[.pointer (some t),.agg (fcells f (.slice a n c)).toArray,.string r] w' fun e w''=>e=.returned (.string ⟨L.toArray⟩)∧Below w'.heap.size w' w'') :
 Calls prog 102 #[.pointer (some t),.agg (fcells f (.slice a n c)).toArray,.iface 222 (.agg #[.int .u8 k,.string r])] w (StrPost L w):=by
 rw[fcells_14] at HR ⊢
 have t1:=has_Number_row (.agg #[.int .u8 k,.string r])
 have t2:=has_List_row (.agg #[.int .u8 k,.string r])
 have t3:=has_Raw_row (.agg #[.int .u8 k,.string r])
 have m1:∀ w:World,(method 512 222 (.agg #[.int .u8 k,.string r]) "Bytes").run prog w=.ok (303,.agg #[.int .u8 k,.string r]) w:=fun _=>by kernel_rfl
 have HR2:=zh HR
 clear HR
 go_enter func102,ntmps102
 go_wp2_with fail
 generalize hW:w.alloc (.cells _ 79)=w2
 have hBW:Below w.heap.size w w2:=by rw[← hW];exact zr.alloc lr _
 have k0:w2.cell? ⟨w.heap.size,0,none⟩=some (.string f.name):=by rw[← hW,cellA];rfl
 have k1:w2.cell? ⟨w.heap.size,1,none⟩=some (.int .u8 f.kind):=by rw[← hW,cellA];rfl
 have k2:w2.cell? ⟨w.heap.size,2,none⟩=some (.bool f.down):=by rw[← hW,cellA];rfl
 have k3:w2.cell? ⟨w.heap.size,3,none⟩=some (.int .u8 f.nulls):=by rw[← hW,cellA];rfl
 have k4:w2.cell? ⟨w.heap.size,4,none⟩=some (.bool f.bnd):=by rw[← hW,cellA];rfl
 have k5:w2.cell? ⟨w.heap.size,5,none⟩=some (.bool f.lob):=by rw[← hW,cellA];rfl
 have k6:w2.cell? ⟨w.heap.size,6,none⟩=some (.string f.lom):=by rw[← hW,cellA];rfl
 have k7:w2.cell? ⟨w.heap.size,7,none⟩=some (.bool f.hib):=by rw[← hW,cellA];rfl
 have k8:w2.cell? ⟨w.heap.size,8,none⟩=some (.string f.him):=by rw[← hW,cellA];rfl
 have k9:w2.cell? ⟨w.heap.size,9,none⟩=some (.int .i64 f.most):=by rw[← hW,cellA];rfl
 have k10:w2.cell? ⟨w.heap.size,10,none⟩=some (.int .i64 f.co.str):=by rw[← hW,cellA];rfl
 have k11:w2.cell? ⟨w.heap.size,11,none⟩=some (.bool f.co.sh):=by rw[← hW,cellA];rfl
 have k12:w2.cell? ⟨w.heap.size,12,none⟩=some (.bool f.co.back):=by rw[← hW,cellA];rfl
 have k13:w2.cell? ⟨w.heap.size,13,none⟩=some (.slice a n c):=by rw[← hW,cellA];rfl
 have HBW:=zh hBW
 clear hW hBW
 have hbd:Below w2.heap.size w2 w2.drew:=(Below.refl w2.heap.size w2).drew
 go_region_held3 (fun w'=>w'.cell? ⟨w.heap.size,0,none⟩=some (.string f.name)∧w'.cell? ⟨w.heap.size,1,none⟩=some (.int .u8 f.kind)∧w'.cell? ⟨w.heap.size,2,none⟩=some (.bool f.down)∧w'.cell? ⟨w.heap.size,3,none⟩=some (.int .u8 f.nulls)∧w'.cell? ⟨w.heap.size,4,none⟩=some (.bool f.bnd)∧w'.cell? ⟨w.heap.size,5,none⟩=some (.bool f.lob)∧w'.cell? ⟨w.heap.size,6,none⟩=some (.string f.lom)∧w'.cell? ⟨w.heap.size,7,none⟩=some (.bool f.hib)∧w'.cell? ⟨w.heap.size,8,none⟩=some (.string f.him)∧w'.cell? ⟨w.heap.size,9,none⟩=some (.int .i64 f.most)∧w'.cell? ⟨w.heap.size,10,none⟩=some (.int .i64 f.co.str)∧w'.cell? ⟨w.heap.size,11,none⟩=some (.bool f.co.sh)∧w'.cell? ⟨w.heap.size,12,none⟩=some (.bool f.co.back)∧w'.cell? ⟨w.heap.size,13,none⟩=some (.slice a n c)∧Below w2.heap.size w2 w') (go_keep) (first
  | (go_at_call 303;refine(bytes_row k r _).mono ?_;rintro e w9 ⟨rfl,hb9⟩;have k0:=V.keeps hb9 (p:=⟨w.heap.size,0,none⟩) (v:=.string f.name) (by assumption);have k1:=V.keeps hb9 (p:=⟨w.heap.size,1,none⟩) (v:=.int .u8 f.kind) (by assumption);have k2:=V.keeps hb9 (p:=⟨w.heap.size,2,none⟩) (v:=.bool f.down) (by assumption);have k3:=V.keeps hb9 (p:=⟨w.heap.size,3,none⟩) (v:=.int .u8 f.nulls) (by assumption);have k4:=V.keeps hb9 (p:=⟨w.heap.size,4,none⟩) (v:=.bool f.bnd) (by assumption);have k5:=V.keeps hb9 (p:=⟨w.heap.size,5,none⟩) (v:=.bool f.lob) (by assumption);have k6:=V.keeps hb9 (p:=⟨w.heap.size,6,none⟩) (v:=.string f.lom) (by assumption);have k7:=V.keeps hb9 (p:=⟨w.heap.size,7,none⟩) (v:=.bool f.hib) (by assumption);have k8:=V.keeps hb9 (p:=⟨w.heap.size,8,none⟩) (v:=.string f.him) (by assumption);have k9:=V.keeps hb9 (p:=⟨w.heap.size,9,none⟩) (v:=.int .i64 f.most) (by assumption);have k10:=V.keeps hb9 (p:=⟨w.heap.size,10,none⟩) (v:=.int .i64 f.co.str) (by assumption);have k11:=V.keeps hb9 (p:=⟨w.heap.size,11,none⟩) (v:=.bool f.co.sh) (by assumption);have k12:=V.keeps hb9 (p:=⟨w.heap.size,12,none⟩) (v:=.bool f.co.back) (by assumption);have k13:=V.keeps hb9 (p:=⟨w.heap.size,13,none⟩) (v:=.slice a n c) (by assumption);have kb:=V.two (a:=_) (by assumption) hb9)
  | (go_at_call 128;have hcur:=(show Below w2.heap.size w2 _ from by assumption);refine(HR2.out _ (HBW.out.trans (hcur.mono HBW.out.size))).mono ?_;rintro e w9 ⟨rfl,hb9⟩;have k0:=V.keeps hb9 (p:=⟨w.heap.size,0,none⟩) (v:=.string f.name) (by assumption);have k1:=V.keeps hb9 (p:=⟨w.heap.size,1,none⟩) (v:=.int .u8 f.kind) (by assumption);have k2:=V.keeps hb9 (p:=⟨w.heap.size,2,none⟩) (v:=.bool f.down) (by assumption);have k3:=V.keeps hb9 (p:=⟨w.heap.size,3,none⟩) (v:=.int .u8 f.nulls) (by assumption);have k4:=V.keeps hb9 (p:=⟨w.heap.size,4,none⟩) (v:=.bool f.bnd) (by assumption);have k5:=V.keeps hb9 (p:=⟨w.heap.size,5,none⟩) (v:=.bool f.lob) (by assumption);have k6:=V.keeps hb9 (p:=⟨w.heap.size,6,none⟩) (v:=.string f.lom) (by assumption);have k7:=V.keeps hb9 (p:=⟨w.heap.size,7,none⟩) (v:=.bool f.hib) (by assumption);have k8:=V.keeps hb9 (p:=⟨w.heap.size,8,none⟩) (v:=.string f.him) (by assumption);have k9:=V.keeps hb9 (p:=⟨w.heap.size,9,none⟩) (v:=.int .i64 f.most) (by assumption);have k10:=V.keeps hb9 (p:=⟨w.heap.size,10,none⟩) (v:=.int .i64 f.co.str) (by assumption);have k11:=V.keeps hb9 (p:=⟨w.heap.size,11,none⟩) (v:=.bool f.co.sh) (by assumption);have k12:=V.keeps hb9 (p:=⟨w.heap.size,12,none⟩) (v:=.bool f.co.back) (by assumption);have k13:=V.keeps hb9 (p:=⟨w.heap.size,13,none⟩) (v:=.slice a n c) (by assumption);have kb:=V.two (a:=_) (by assumption) hb9))
 have HB9:=zh (HBW.out.trans (kb.mono HBW.out.size))
 clear kb hbd
 go_wp2_with fail
 go_ret
 exact⟨rfl,HB9.out⟩
open V (Same Pt VI mayB mayB_ok has_Number_tuple has_List_tuple at_in)
def PutAt (K:Co→ByteArray→List UInt8) (Tb:World→Prop) (t:Addr) (g:Fd):Prop:=FFit g→cntF g≤64→∀ (a:Option Addr) (c:Nat) (q:Pt) (v:Value) (w:World),mayB q=true→fitF g q=true→Tb w→VI w 0 w.heap.size q v→FI w 0 w.heap.size g.fields (.slice a g.fields.length c) →
 Calls prog 77 #[.pointer (some t),.agg (fcells g (.slice a g.fields.length c)).toArray,v] w (StrPost (encF K g q) w)
theorem encL_drop {K:Co→ByteArray→List UInt8} {F:List Fd} {l:List Pt} {j:Nat} (h:j<F.length) (h2:j<l.length):encL K (F.drop j) (l.drop j)=encF K F[j] l[j]++encL K (F.drop (j+1)) (l.drop (j+1)):=by
 rw[List.drop_eq_getElem_cons h,List.drop_eq_getElem_cons h2,encL_cons];rfl
theorem cat_toList (a b:ByteArray):(a++b).toList=a.toList++b.toList:=by rw[Lib.toList_data,Lib.toList_data,Lib.toList_data];simp
theorem pay_tuple (K:Co→ByteArray→List UInt8) (hK:KeyLen K) (Tb:World→Prop) (hTb:∀ w w',Tb w→Below w.heap.size w w'→Tb w') (t:Addr) (f:Fd) (d:Nat) (hff:FFit f) (hcnt:cntF f≤64) (hin:∀ g∈f.fields,OkF d g) (p:Pt) (b:Option Addr) (cap:Nat) (a:Option Addr) (c:Nat) (w:World) (hmay:mayB p=true) (hk:p.kind=7) (hil:p.items.length≤1024)
 (hlen:p.items.length=f.fields.length) (hfit:fitL f.fields p.items=true) (IH:∀ g∈f.fields,PutAt K Tb t g) (htb:Tb w)
 (hv:VI w 0 w.heap.size p (.iface 118 (.agg #[.slice b p.items.length cap]))) (hfi:FI w 0 w.heap.size f.fields (.slice a f.fields.length c)) :
 Calls prog 102 #[.pointer (some t),.agg (fcells f (.slice a f.fields.length c)).toArray,.iface 118 (.agg #[.slice b p.items.length cap])] w (StrPost (encL K f.fields p.items++[1]) w):=by
 have HV:=zh hv
 have HFI:=zh hfi
 have HIH:=zh IH
 have HTB:=zh htb
 have HIN:=zh hin
 have hfl:=hff.l
 rw[cntF_eq] at hcnt
 obtain⟨F,hF⟩:∃ F,f.fields=F:=⟨_,rfl⟩
 obtain⟨il,hm⟩:∃ m,F.length=m:=⟨_,rfl⟩
 rw[hF] at HIH HFI HIN hfl hlen hfit hcnt ⊢
 rw[hm] at HFI hfl hlen ⊢
 rw[hlen] at HV hil ⊢
 have htot:(encL K F p.items).length≤cntL F*700000000:=encL_len (K:=K) F (fun g hg q h1 h2=>encF_len hK g d (HIN.out g hg) q h1 h2) p.items (by omega) hfit (fun q hq=>V.mayB_item hmay hq)
 have htot2:(encL K F p.items).length≤64*700000000:=Nat.le_trans htot (Nat.mul_le_mul_right _ (by omega))
 rw[fcells_14]
 have HCNT:=zh (show cntL F≤64 by omega)
 have HTOT:=zh htot2
 have HHF:=zh hfit
 have HLEN:=zh hlen
 have HM:=zh hm
 clear hv hfi IH hff hF htb hcnt htot htot2 hfit hlen hm hin
 have t1:=has_Number_tuple (.agg #[.slice b il cap])
 have t2:=has_List_tuple (.agg #[.slice b il cap])
 have mA:∀ w:World,(method 512 118 (.agg #[.slice b il cap]) "At").run prog w=.ok (277,.agg #[.slice b il cap]) w:=fun _=>by kernel_rfl
 go_enter func102,ntmps102
 go_wp2_with fail
 go_loopw [11,32] (fun sv iv wr=>∃ (j:Nat) (s:ByteArray),j≤il∧iv=.int .i64 (j:Int)∧sv=.string s∧Below w.heap.size w wr∧Hid (encL K F p.items=s.toList++encL K (F.drop j) (p.items.drop j))∧Hid (fitL (F.drop j) (p.items.drop j)=true)) (fun _ iv _=>il-(intOf iv).toNat)
 case atStart=>exact⟨0,_,Nat.zero_le _,rfl,rfl,zr.alloc lr _,zh (by rw[Lib.toList_data];rfl),zh HHF.out⟩
 case round =>
  obtain⟨j,s,hj,rfl,rfl,hB,henc,hfitj⟩:=hrel
  have hss:s.size≤64*700000000:=by
   have h1:=HTOT.out
   rw[henc.out,List.length_append,V.size_of] at h1
   omega
  by_cases hlt:j<il
  · have q2:decide ((j:Int)<(il:Int))=true:=decide_eq_true (by omega)
    have hfi:=fi_later HFI.out hB
    obtain⟨a',c',he,hc,hpl⟩:=hfi.open
    injection he with e1 e2 e3
    subst e1 e3
    have hjF:j<F.length:=by omega
    have hjp:j<p.items.length:=by rw[HLEN.out];omega
    obtain⟨bb,off,u,rfl,_,hbh,hcl,hff,hsub⟩:=hpl j hjF
    obtain⟨k0,k1,k2,k3,k4,k5,k6,k7,k8,k9,k10,k11,k12,k13⟩:=hcl.all
    obtain⟨au,cu,rfl,hsc,hso⟩:=hsub.open
    obtain⟨gi,ui,rfl,_,hci,hvi⟩:=vi_item (vi_later HV.out hB) hk j hjp
    have hmq:=V.mayB_item hmay (List.getElem_mem hjp)
    have hgm:=List.getElem_mem hjF
    have hIH:=HIH.out F[j] hgm
    have hfd:=fitL_drop hjF hjp
    have hed:=encL_drop (K:=K) hjF hjp
    have hct:=cntL_mem hgm
    have hog:=HIN.out F[j] hgm
    obtain⟨g,hg⟩:∃ g,F[j]=g:=⟨_,rfl⟩
    obtain⟨q,hq⟩:∃ q,p.items[j]=q:=⟨_,rfl⟩
    rw[hg] at k0 k1 k2 k3 k4 k5 k6 k7 k8 k9 k10 k11 k12 hff hsub hIH hfd hed hct hog k13
    rw[hq] at hvi hmq hfd hed
    rw[hfitj.out] at hfd
    have hfd2:=hfd.symm
    rw[Bool.and_eq_true] at hfd2
    have hgl:=encF_len hK g d hog q hfd2.1 hmq
    have hgl2:(encF K g q).length≤64*700000000:=Nat.le_trans hgl (Nat.mul_le_mul_right _ (Nat.le_trans hct HCNT.out))
    have HP:=zh (fun w' (hb:Below w.heap.size w w') hvv hff2=>hIH hff (Nat.le_trans hct HCNT.out) au cu q ui w' hmq hfd2.1 (hTb w w' HTB.out hb) hvv hff2)
    obtain⟨eg,heg⟩:∃ eg,encF K g q=eg:=⟨_,rfl⟩
    rw[heg] at HP hed hgl2
    have HED:=zh hed
    have HSUB:=zh hsub
    have HVI:=zh hvi
    have HB3:=zh hB
    have HF2:=zh hfd2.2
    have hcc:il≤c:=by have:=HM.out;omega
    have hc1:(9223372036854775807<s.size+eg.length)=False:=by simp;omega
    clear hfi hpl hcl hsub hvi hmq hIH hfd hg hq hff hB hsc hso e2 hc hjF hjp hgm hed hct hog hfd2 hgl hgl2 heg hss
    go_wp2_with fail
    generalize hW:wr.alloc (.cells _ 79)=w2
    have hBW:Below wr.heap.size wr w2:=by rw[← hW];exact zr.alloc lr _
    replace hci:=V.keeps hBW hci
    clear k0 k1 k2 k3 k4 k5 k6 k7 k8 k9 k10 k11 k12 k13
    have k0:w2.cell? ⟨wr.heap.size,0,none⟩=some (.string g.name):=by rw[← hW,cellA];rfl
    have k1:w2.cell? ⟨wr.heap.size,1,none⟩=some (.int .u8 g.kind):=by rw[← hW,cellA];rfl
    have k2:w2.cell? ⟨wr.heap.size,2,none⟩=some (.bool g.down):=by rw[← hW,cellA];rfl
    have k3:w2.cell? ⟨wr.heap.size,3,none⟩=some (.int .u8 g.nulls):=by rw[← hW,cellA];rfl
    have k4:w2.cell? ⟨wr.heap.size,4,none⟩=some (.bool g.bnd):=by rw[← hW,cellA];rfl
    have k5:w2.cell? ⟨wr.heap.size,5,none⟩=some (.bool g.lob):=by rw[← hW,cellA];rfl
    have k6:w2.cell? ⟨wr.heap.size,6,none⟩=some (.string g.lom):=by rw[← hW,cellA];rfl
    have k7:w2.cell? ⟨wr.heap.size,7,none⟩=some (.bool g.hib):=by rw[← hW,cellA];rfl
    have k8:w2.cell? ⟨wr.heap.size,8,none⟩=some (.string g.him):=by rw[← hW,cellA];rfl
    have k9:w2.cell? ⟨wr.heap.size,9,none⟩=some (.int .i64 g.most):=by rw[← hW,cellA];rfl
    have k10:w2.cell? ⟨wr.heap.size,10,none⟩=some (.int .i64 g.co.str):=by rw[← hW,cellA];rfl
    have k11:w2.cell? ⟨wr.heap.size,11,none⟩=some (.bool g.co.sh):=by rw[← hW,cellA];rfl
    have k12:w2.cell? ⟨wr.heap.size,12,none⟩=some (.bool g.co.back):=by rw[← hW,cellA];rfl
    have k13:w2.cell? ⟨wr.heap.size,13,none⟩=some (.slice au g.fields.length cu):=by rw[← hW,cellA];rfl
    have HBW:=zh hBW
    clear hW hBW
    have hbd:Below w2.heap.size w2 w2.drew:=(Below.refl w2.heap.size w2).drew
    go_region_held3 (fun w'=>w'.cell? ⟨wr.heap.size,0,none⟩=some (.string g.name)∧w'.cell? ⟨wr.heap.size,1,none⟩=some (.int .u8 g.kind)∧w'.cell? ⟨wr.heap.size,2,none⟩=some (.bool g.down)∧w'.cell? ⟨wr.heap.size,3,none⟩=some (.int .u8 g.nulls)∧w'.cell? ⟨wr.heap.size,4,none⟩=some (.bool g.bnd)∧w'.cell? ⟨wr.heap.size,5,none⟩=some (.bool g.lob)∧w'.cell? ⟨wr.heap.size,6,none⟩=some (.string g.lom)∧w'.cell? ⟨wr.heap.size,7,none⟩=some (.bool g.hib)∧w'.cell? ⟨wr.heap.size,8,none⟩=some (.string g.him)∧w'.cell? ⟨wr.heap.size,9,none⟩=some (.int .i64 g.most)∧w'.cell? ⟨wr.heap.size,10,none⟩=some (.int .i64 g.co.str)∧w'.cell? ⟨wr.heap.size,11,none⟩=some (.bool g.co.sh)∧w'.cell? ⟨wr.heap.size,12,none⟩=some (.bool g.co.back)∧w'.cell? ⟨wr.heap.size,13,none⟩=some (.slice au g.fields.length cu)∧w'.cell? ⟨gi,j,none⟩=some (ui)∧Below w2.heap.size w2 w') (go_keep) (first
     | (go_at_call 277;refine(at_in gi il cap j ui _ (by omega) (by omega) (by assumption)).mono ?_;rintro e w9 ⟨rfl,hb9⟩;have k0:=V.keeps hb9 (p:=⟨wr.heap.size,0,none⟩) (v:=.string g.name) (by assumption);have k1:=V.keeps hb9 (p:=⟨wr.heap.size,1,none⟩) (v:=.int .u8 g.kind) (by assumption);have k2:=V.keeps hb9 (p:=⟨wr.heap.size,2,none⟩) (v:=.bool g.down) (by assumption);have k3:=V.keeps hb9 (p:=⟨wr.heap.size,3,none⟩) (v:=.int .u8 g.nulls) (by assumption);have k4:=V.keeps hb9 (p:=⟨wr.heap.size,4,none⟩) (v:=.bool g.bnd) (by assumption);have k5:=V.keeps hb9 (p:=⟨wr.heap.size,5,none⟩) (v:=.bool g.lob) (by assumption);have k6:=V.keeps hb9 (p:=⟨wr.heap.size,6,none⟩) (v:=.string g.lom) (by assumption);have k7:=V.keeps hb9 (p:=⟨wr.heap.size,7,none⟩) (v:=.bool g.hib) (by assumption);have k8:=V.keeps hb9 (p:=⟨wr.heap.size,8,none⟩) (v:=.string g.him) (by assumption);have k9:=V.keeps hb9 (p:=⟨wr.heap.size,9,none⟩) (v:=.int .i64 g.most) (by assumption);have k10:=V.keeps hb9 (p:=⟨wr.heap.size,10,none⟩) (v:=.int .i64 g.co.str) (by assumption);have k11:=V.keeps hb9 (p:=⟨wr.heap.size,11,none⟩) (v:=.bool g.co.sh) (by assumption);have k12:=V.keeps hb9 (p:=⟨wr.heap.size,12,none⟩) (v:=.bool g.co.back) (by assumption);have k13:=V.keeps hb9 (p:=⟨wr.heap.size,13,none⟩) (v:=.slice au g.fields.length cu) (by assumption);have k14:=V.keeps hb9 (p:=⟨gi,j,none⟩) (v:=ui) (by assumption);have kb:=V.two (a:=_) (by assumption) hb9)
     | (go_at_call 77;have hcur:=(show Below w2.heap.size w2 _ from by assumption);refine(HP.out _ (HB3.out.trans ((HBW.out.trans (hcur.mono HBW.out.size)).mono HB3.out.size)) (vi_later HVI.out (HBW.out.trans (hcur.mono HBW.out.size))) (fi_later HSUB.out (HBW.out.trans (hcur.mono HBW.out.size)))).mono ?_;rintro e w9 ⟨rfl,hb9⟩;have k0:=V.keeps hb9 (p:=⟨wr.heap.size,0,none⟩) (v:=.string g.name) (by assumption);have k1:=V.keeps hb9 (p:=⟨wr.heap.size,1,none⟩) (v:=.int .u8 g.kind) (by assumption);have k2:=V.keeps hb9 (p:=⟨wr.heap.size,2,none⟩) (v:=.bool g.down) (by assumption);have k3:=V.keeps hb9 (p:=⟨wr.heap.size,3,none⟩) (v:=.int .u8 g.nulls) (by assumption);have k4:=V.keeps hb9 (p:=⟨wr.heap.size,4,none⟩) (v:=.bool g.bnd) (by assumption);have k5:=V.keeps hb9 (p:=⟨wr.heap.size,5,none⟩) (v:=.bool g.lob) (by assumption);have k6:=V.keeps hb9 (p:=⟨wr.heap.size,6,none⟩) (v:=.string g.lom) (by assumption);have k7:=V.keeps hb9 (p:=⟨wr.heap.size,7,none⟩) (v:=.bool g.hib) (by assumption);have k8:=V.keeps hb9 (p:=⟨wr.heap.size,8,none⟩) (v:=.string g.him) (by assumption);have k9:=V.keeps hb9 (p:=⟨wr.heap.size,9,none⟩) (v:=.int .i64 g.most) (by assumption);have k10:=V.keeps hb9 (p:=⟨wr.heap.size,10,none⟩) (v:=.int .i64 g.co.str) (by assumption);have k11:=V.keeps hb9 (p:=⟨wr.heap.size,11,none⟩) (v:=.bool g.co.sh) (by assumption);have k12:=V.keeps hb9 (p:=⟨wr.heap.size,12,none⟩) (v:=.bool g.co.back) (by assumption);have k13:=V.keeps hb9 (p:=⟨wr.heap.size,13,none⟩) (v:=.slice au g.fields.length cu) (by assumption);have k14:=V.keeps hb9 (p:=⟨gi,j,none⟩) (v:=ui) (by assumption);have kb:=V.two (a:=_) (by assumption) hb9))
    have HB4:=zh (HB3.out.trans ((HBW.out.trans (kb.mono HBW.out.size)).mono HB3.out.size))
    clear kb hbd
    go_wp2_with fail
    exact⟨⟨j+1,_,by omega,by simp,rfl,HB4.out,zh (by rw[henc.out,HED.out,cat_toList,toList_mk eg,List.append_assoc]),zh HF2.out⟩,by simp[intOf];omega⟩
  · have q2:decide ((j:Int)<(il:Int))=false:=decide_eq_false (by omega)
    have HE:=zh (show encL K F p.items=s.toList by rw[henc.out,List.drop_of_length_le (show F.length≤j by rw[HM.out];omega),encL_nil,List.append_nil])
    have hc1:(9223372036854775807<s.size+1)=False:=by simp;omega
    have hcv:∀ (W:World) (B:Nat),W.cell? ⟨B,0,none⟩=some (.int .u8 1)→(convert 99 9 (.slice (some ⟨B,0,none⟩) 1 1)).run prog W=.ok (.string ⟨#[1]⟩) W:=fun W B h =>
     run_convert_bytes_back (P:=prog) W 99 9 5 ⟨B,0,none⟩ 1 [1] underlying99 underlying5 underlying9 (fun j hj=>by
      obtain rfl:j=0:=by simp at hj;omega
      simpa[Addr.add] using h)
    have HB5:=zh hB
    clear hB hss
    go_wp2_with fail
    go_ret
    refine⟨?_,HB5.out.alloc HB5.out.size _⟩
    refine congrArg (fun s=>Ending.returned (.string s)) (ba_eq ?_)
    have h1:=cat_toList s ⟨#[1]⟩
    rw[Lib.toList_data] at h1
    rw[h1,HE.out,Lib.toList_data ⟨#[1]⟩]
open V (Same Pt VI mayB mayB_ok)
theorem conv_one (c:UInt8) (W:World) (B:Nat) (h:W.cell? ⟨B,0,none⟩=some (.int .u8 (c.toNat:Int))):(convert 99 9 (.slice (some ⟨B,0,none⟩) 1 1)).run prog W=.ok (.string ⟨#[c]⟩) W :=
 run_convert_bytes_back (P:=prog) W 99 9 5 ⟨B,0,none⟩ 1 [c] underlying99 underlying5 underlying9 (fun j hj=>by
  obtain rfl:j=0:=by simp at hj;omega
  simpa[Addr.add] using h)
theorem put_null (f:Fd) (a:Option Addr) (n c:Nat) (t:Addr) (w:World):Calls prog 77 #[.pointer (some t),.agg (fcells f (.slice a n c)).toArray,.nilIface] w (StrPost [nullB f] w):=by
 have HN:=zh (fun w=>null_any f a n c w)
 rw[fcells_14] at HN ⊢
 obtain⟨nb,hnb⟩:∃ nb,nullB f=nb:=⟨_,rfl⟩
 rw[hnb] at HN ⊢
 clear hnb
 have hcv:=conv_one nb
 go_enter func77,ntmps77
 go_wp2_with (go_at_call 67;refine(HN.out _).mono ?_;rintro e w1 ⟨rfl,hb1⟩;have HB:=zh ((zr.alloc lr _).trans (hb1.mono (by simp))))
 go_ret
 exact⟨rfl,HB.out.alloc HB.out.size _⟩
theorem put_some (f:Fd) (hk:f.kind≤7) (a:Option Addr) (n c:Nat) (t:Addr) (T:TypeId) (V:Value) (L:List UInt8) (hL:L.length≤1099511627000) (w:World)
 (HP:∀ w':World,Below w.heap.size w w'→Calls prog 102 #[.pointer (some t),.agg (fcells f (.slice a n c)).toArray,.iface T V] w' (StrPost L w')) :
 Calls prog 77 #[.pointer (some t),.agg (fcells f (.slice a n c)).toArray,.iface T V] w (StrPost (tagB f::flips f.down L) w):=by
 have HP2:=zh HP
 have HT:=zh (fun w=>tag_any f hk a n c w)
 have HF:=zh (fun w=>Es.flip_any ⟨L.toArray⟩ w (by rw[size_mk];omega))
 rw[fcells_14] at HP2 HT ⊢
 obtain⟨tb,htb⟩:∃ tb,tagB f=tb:=⟨_,rfl⟩
 rw[htb] at HT ⊢
 clear htb HP
 have hcv:=conv_one tb
 cases hd:f.down with
 | true =>
  rw[hd] at HP2 HT
  have hfl:(⟨(List.map (255-·) (⟨L.toArray⟩:ByteArray).data.toList).toArray⟩:ByteArray)=⟨(flips true L).toArray⟩:=rfl
  have HF2:=zh (fun w=>by have:=HF.out w;rw[hfl] at this;exact this)
  have hfll:(flips true L).length≤1099511627000:=by rw[flips_len];exact hL
  obtain⟨M,hM⟩:∃ M,flips true L=M:=⟨_,rfl⟩
  rw[hM] at HF2 hfll ⊢
  have hc1:(9223372036854775807<1+M.length)=False:=by simp;omega
  clear hM hfl HF hd hL hfll hk
  go_enter func77,ntmps77
  go_wp2_with (first
   | (go_at_call 102;refine(HP2.out _ (zr.alloc lr _)).mono ?_;rintro e w1 ⟨rfl,hb1⟩;have HB:=zh ((zr.alloc lr _).trans (hb1.mono (by simp)));have HBF:=zh (Blk.below (Blk.new w 79 #[.string f.name,.int .u8 f.kind,.bool true,.int .u8 f.nulls,.bool f.bnd,.bool f.lob,.string f.lom,.bool f.hib,.string f.him,.int .i64 f.most,.int .i64 f.co.str,.bool f.co.sh,.bool f.co.back,.slice a n c]) hb1 (by simp));have c2:=HBF.out.cell 2;simp at c2)
   | (go_at_call 103;refine(HF2.out _).mono ?_;rintro e w2 ⟨rfl,hb2⟩;have HB2:=zh (HB.out.trans (hb2.mono HB.out.size));obtain⟨d0,d1,d2,d3,d4,d5,d6,d7,d8,d9,d10,d11,d12,d13⟩:=f14 (Blk.below HBF.out hb2 HBF.out.lt))
   | (go_at_call 68;refine(HT.out _).mono ?_;rintro e w3 ⟨rfl,hb3⟩;have HB3:=zh (HB2.out.trans (hb3.mono HB2.out.size))))
  go_ret
  exact⟨congrArg (fun s=>Ending.returned (.string s)) (ba_eq (by simp)),HB3.out.alloc HB3.out.size _⟩
 | false =>
  rw[hd] at HP2 HT
  have hfl:flips false L=L:=List.map_id' L
  rw[hfl]
  have hc1:(9223372036854775807<1+L.length)=False:=by simp;omega
  clear hfl HF hd hL hk
  go_enter func77,ntmps77
  go_wp2_with (first
   | (go_at_call 102;refine(HP2.out _ (zr.alloc lr _)).mono ?_;rintro e w1 ⟨rfl,hb1⟩;have HB:=zh ((zr.alloc lr _).trans (hb1.mono (by simp)));obtain⟨d0,d1,d2,d3,d4,d5,d6,d7,d8,d9,d10,d11,d12,d13⟩:=f14 (Blk.below (Blk.new w 79 #[.string f.name,.int .u8 f.kind,.bool false,.int .u8 f.nulls,.bool f.bnd,.bool f.lob,.string f.lom,.bool f.hib,.string f.him,.int .i64 f.most,.int .i64 f.co.str,.bool f.co.sh,.bool f.co.back,.slice a n c]) hb1 (by simp)))
   | (go_at_call 68;refine(HT.out _).mono ?_;rintro e w3 ⟨rfl,hb3⟩;have HB3:=zh (HB.out.trans (hb3.mono HB.out.size))))
  go_ret
  exact⟨congrArg (fun s=>Ending.returned (.string s)) (ba_eq (by simp)),HB3.out.alloc HB3.out.size _⟩
def Tb (D:Dm) (T:Tm) (t:Addr) (w:World):Prop:=TblAt w 0 w.heap.size (.pointer (some t)) D T
theorem tb_later {D:Dm} {T:Tm} {t:Addr} {w w':World} (h:Tb D T t w) (hb:Below w.heap.size w w'):Tb D T t w':=(h.later hb lr).wide lr hb.size
theorem keyLen {D:Dm} (wf:Wf D) {T:Tm} (wt:WfT T):KeyLen (keyM D T):=fun c s hc hs=>key_len wf wt c hc hs
theorem payP_raw {K:Co→ByteArray→List UInt8} {f:Fd} {p:Pt} (h1:p.kind≠1) (h2:p.kind≠2):payP K f p=rawM K f p.raw:=by
 unfold payP rawM
 rw[if_neg h1,if_neg h2]
theorem put_any {D:Dm} (wf:Wf D) {T:Tm} (wt:WfT T) (t:Addr) (f:Fd):∀ d,OkF d f→PutAt (keyM D T) (Tb D T t) t f:=by
 induction f using Fd.ind with
 | h f ih =>
  intro d hok hff hcnt a c q v w hmay hfit htb hv hfi
  have hel:=encF_len (keyLen wf wt) f d hok q hfit hmay
  obtain⟨_,_,hd,_,ho,h7,_,hin⟩:=hok
  obtain⟨hk,_,hco,_⟩:=odd_not ho
  have hcan:=canon (mayB_ok hmay)
  rw[fitF_eq] at hfit
  rw[encF_eq] at hel ⊢
  by_cases h0:q.kind=0
  · rw[if_pos h0]
    obtain rfl:=hv.nilOf h0
    exact put_null f a _ c t w
  rw[if_neg h0] at hfit hel ⊢
  simp only [Bool.and_eq_true,beq_iff_eq] at hfit
  obtain⟨U,V,rfl⟩:∃ T V,v=.iface T V:=by
   obtain⟨U,V,_,h,_⟩:=hv.kindOf h0
   exact⟨U,V,h⟩
  have hL:(if q.kind=7 then encL (keyM D T) f.fields q.items++[1] else payP (keyM D T) f q).length≤1099511627000:=by
   rw[List.length_cons,flips_len] at hel
   have:cntF f*700000000≤64*700000000:=Nat.mul_le_mul_right _ hcnt
   omega
  refine put_some f hk.2.1 a _ c t U V _ hL w fun w' hb=>?_
  have hv':=vi_later hv hb
  have hfi':=fi_later hfi hb
  have htb':=tb_later htb hb
  generalize hvv:Value.iface U V=v at hv
  cases hv with
  | null _ h=>exact absurd h h0
  | truth _ h =>
   injection hvv with e1 e2
   subst e1 e2
   rw[if_neg (by omega)]
   have:=pay_truth f q.yes a f.fields.length c t w'
   unfold payP
   rw[if_pos h]
   exact this
  | whole _ h =>
   injection hvv with e1 e2
   subst e1 e2
   rw[if_neg (by omega)]
   unfold payP
   rw[if_neg (by omega),if_pos h]
   exact pay_whole f q.neg q.mag (hcan.2.2.2.2.1 h) a f.fields.length c t w'
  | row _ g0 g1 g2 g7 =>
   injection hvv with e1 e2
   subst e1 e2
   rw[if_neg g7] at hfit ⊢
   rw[payP_raw g1 g2]
   have hle:=hcan.1
   have hsz:q.raw.size≤65536:=by
    by_cases h4:q.kind=4
    · have:=hcan.2.2.2.2.2.1 h4;omega
    · exact hcan.2.2.2.2.2.2.1 (by omega)
   refine pay_row f q.kind q.raw _ a f.fields.length c t w' fun w'' hb2=>?_
   by_cases h6:f.kind=6
   · have hu:U.checkS q.raw<0:=by
      have h3:=hfit.2
      unfold fitP at h3
      rw[if_neg g2,hfit.1,h6] at h3
      simpa using h3
     exact raw_text wf wt f q.raw h6 (hco h6) hsz (good_of hu) a f.fields.length c t w'' (tb_later htb' hb2)
   · exact raw_plain f (keyM D T) q.raw (by omega) hsz a f.fields.length c t w''
  | tuple _ h a' cap' F hc cells deep =>
   injection hvv with e1 e2
   subst e1 e2
   rw[if_pos h] at hfit ⊢
   simp only [Bool.and_eq_true,beq_iff_eq] at hfit
   have hil:q.items.length≤1024:=by
    have h1:=mayB_ok hmay
    simp only [V.okOne,h,Bool.and_eq_true] at h1
    have h2:=h1.2
    simp at h2
    exact h2.2
   exact pay_tuple (keyM D T) (keyLen wf wt) (Tb D T t) (fun _ _ h hb=>tb_later h hb) t f (d+1) hff hcnt hin q a' cap' a c w' hmay h hil hfit.2.1 hfit.2.2 (fun g hg=>ih g hg (d+1) (hin g hg)) htb' hv' hfi'
def PutPost (ok:Bool) (l:List UInt8) (w:World) (e:Ending) (w':World):Prop :=
 (if ok then e=.returned (.tuple #[.string ⟨l.toArray⟩,.nilIface]) else ∃ fb,w.heap.size≤fb∧e=.returned (.tuple #[.string ⟨#[]⟩,.iface 39 (.pointer (some ⟨fb,0,none⟩))])∧FaultOk w' fb 17)∧Below w.heap.size w w'
theorem Put_any {D:Dm} (wf:Wf D) {T:Tm} (wt:WfT T) (t:Addr) (f:Fd) (hff:FFit f) (a:Option Addr) (c:Nat) (q:Pt) (v:Value) (w:World) (hmay:mayB q=true) (htb:Tb D T t w) (hv:VI w 0 w.heap.size q v) (hfi:FI w 0 w.heap.size f.fields (.slice a f.fields.length c)) :
 Calls prog 47 #[.pointer (some t),.agg (fcells f (.slice a f.fields.length c)).toArray,v] w (PutPost (okS 65536 [f]&&fitF f q) (encF (keyM D T) f q) w):=by
 have hvs:v=.nilIface∨∃ T V,v=.iface T V:=by
  by_cases h0:q.kind=0
  · exact .inl (hv.nilOf h0)
  · obtain⟨T,V,_,h,_⟩:=hv.kindOf h0
    exact .inr ⟨T,V,h⟩
 have HR:=zh (fun o=>fieldRefused_any f a c t (w.alloc o) hff (fi_later hfi (zr.alloc lr o)))
 have HFF:=zh (fun (w':World) (hb:Below w.heap.size w w')=>fitField_any f a c q v w' hff hmay (vi_later hv hb) (fi_later hfi hb))
 have HPP:=zh (fun (h1:okS 65536 [f]=true) (h2:fitF f q=true) (w':World) (hb:Below w.heap.size w w')=>put_any wf wt t f 0 ((okS_all h1).2.2.2.2 f List.mem_cons_self) hff (Nat.le_trans (cntL_mem List.mem_cons_self) (okS_cnt h1)) a c q v w' hmay h2 (tb_later htb hb) (vi_later hv hb) (fi_later hfi hb))
 obtain⟨O,hO⟩:∃ O,okS 65536 [f]=O:=⟨_,rfl⟩
 obtain⟨X,hX⟩:∃ X,fitF f q=X:=⟨_,rfl⟩
 obtain⟨E,hE⟩:∃ E,encF (keyM D T) f q=E:=⟨_,rfl⟩
 obtain⟨m,hm⟩:∃ m,f.fields.length=m:=⟨_,rfl⟩
 rw[hO,hm] at HR
 rw[hO,hX,hm] at HFF
 rw[hO,hX,hE,hm] at HPP
 rw[hO,hX,hE,hm]
 rw[fcells_14] at HR HFF HPP ⊢
 clear hv hfi hff hmay hm hO hX hE htb
 have CELLS:=zh (fun w1 (hb1:Below (w.alloc (.cells #[.string f.name,.int .u8 f.kind,.bool f.down,.int .u8 f.nulls,.bool f.bnd,.bool f.lob,.string f.lom,.bool f.hib,.string f.him,.int .i64 f.most,.int .i64 f.co.str,.bool f.co.sh,.bool f.co.back,.slice a m c] 79)).heap.size (w.alloc (.cells #[.string f.name,.int .u8 f.kind,.bool f.down,.int .u8 f.nulls,.bool f.bnd,.bool f.lob,.string f.lom,.bool f.hib,.string f.him,.int .i64 f.most,.int .i64 f.co.str,.bool f.co.sh,.bool f.co.back,.slice a m c] 79)) w1)=>Blk.below (Blk.new w 79 #[.string f.name,.int .u8 f.kind,.bool f.down,.int .u8 f.nulls,.bool f.bnd,.bool f.lob,.string f.lom,.bool f.hib,.string f.him,.int .i64 f.most,.int .i64 f.co.str,.bool f.co.sh,.bool f.co.back,.slice a m c]) hb1 (by simp))
 cases O with
 | false =>
  rw[Bool.false_and]
  rcases hvs with rfl | ⟨U,V,rfl⟩
  all_goals
   go_enter func47,ntmps47
   go_wp2_with (go_at_call 39;refine(HR.out _).mono ?_;intro e w1 he;obtain⟨fb,⟨hfb,rfl,hfo⟩,hb1⟩:=he.no;have HB:=zh ((zr.alloc lr _).trans (hb1.mono (by simp)));have HFO:=zh hfo;have HLE:=zh (show w.heap.size≤fb by simp at hfb;omega);clear hfo hfb)
   refine bodyPost_ret (v:=.tuple #[.string ⟨#[]⟩,.iface 39 (.pointer (some ⟨fb,0,none⟩))]) (by simp[results,Tryz.f47]) rfl ?_
   exact⟨⟨fb,HLE.out,rfl,HFO.out⟩,HB.out⟩
 | true =>
  rw[Bool.true_and] at HFF ⊢
  cases X with
  | false =>
   rcases hvs with rfl | ⟨U,V,rfl⟩
   all_goals
    go_enter func47,ntmps47
    go_wp2_with (first
     | (go_at_call 39;refine(HR.out _).mono ?_;intro e w1 he;obtain⟨rfl,hb1⟩:=he.yes;have HB:=zh ((zr.alloc lr _).trans (hb1.mono (by simp)));have HBF:=zh (CELLS.out w1 hb1);obtain⟨c0,c1,c2,c3,c4,c5,c6,c7,c8,c9,c10,c11,c12,c13⟩:=f14 HBF.out)
     | (go_at_call 76;refine(HFF.out _ HB.out).mono ?_;intro e w2 he2;obtain⟨fb,⟨hfb,rfl,hfo⟩,hb2⟩:=he2.no;have HB2:=zh (HB.out.trans (hb2.mono HB.out.size));have HFO:=zh hfo;have HLE:=zh (Nat.le_trans HB.out.size hfb);clear hfo hfb))
    refine bodyPost_ret (v:=.tuple #[.string ⟨#[]⟩,.iface 39 (.pointer (some ⟨fb,0,none⟩))]) (by simp[results,Tryz.f47]) rfl ?_
    exact⟨⟨fb,HLE.out,rfl,HFO.out⟩,HB2.out⟩
  | true =>
   rcases hvs with rfl | ⟨U,V,rfl⟩
   all_goals
    go_enter func47,ntmps47
    go_wp2_with (first
     | (go_at_call 39;refine(HR.out _).mono ?_;intro e w1 he;obtain⟨rfl,hb1⟩:=he.yes;have HB:=zh ((zr.alloc lr _).trans (hb1.mono (by simp)));have HBF:=zh (CELLS.out w1 hb1);obtain⟨c0,c1,c2,c3,c4,c5,c6,c7,c8,c9,c10,c11,c12,c13⟩:=f14 HBF.out)
     | (go_at_call 76;refine(HFF.out _ HB.out).mono ?_;intro e w2 he2;obtain⟨rfl,hb2⟩:=he2.yes;have HB2:=zh (HB.out.trans (hb2.mono HB.out.size));obtain⟨d0,d1,d2,d3,d4,d5,d6,d7,d8,d9,d10,d11,d12,d13⟩:=f14 (Blk.below HBF.out hb2 HBF.out.lt)))
    refine(HPP.out (by simp) (by simp) _ HB2.out).mono ?_
    rintro e w3 ⟨rfl,hb3⟩
    have HB3:=zh (HB2.out.trans (hb3.mono HB2.out.size))
    go_wp2_with fail
    refine bodyPost_ret (v:=.tuple #[.string ⟨E.toArray⟩,.nilIface]) (by simp[results,Tryz.f47]) rfl ?_
    exact⟨rfl,HB3.out⟩
open V (Same Pt VI mayB mayB_ok at_in)
theorem str_bv (s:ByteArray):Lib.strCells s=bv s.toList:=by
 unfold Lib.strCells bv
 rw[Lib.toList_data]
theorem wpList_append_str {P:Program} {ops:Array Oper} {rest:List Oper} {o:Oper} {a:Act} {Q:Exit→Act→World→Prop} {W w:World} (hgd:o.guard=none) (s x:Operand) (t u:TypeId)
 (ho:o.op=.call { callee:=.builtin .append,args:=#[s,x],argTypes:=#[t,u] })
 (ht:P.underlying t=some (.slice 5)) (hu:P.underlying u=some .string) (hinfo:(P.info? 5).map (fun i=>(i.zero,i.size,i.bytes))=some (some (.int .u8 0),1,1))
 {base:Nat} {v:Value} {l:List UInt8} (hs:a.eval s=v) (hown:OwnB w base v l)
 (m:ByteArray) (hx:a.eval x=.string m)
 (hlen:l.length+m.size≤140737488355328) (hB:Below base W w) (hbase:base≤w.heap.size)
 (h:∀ v' w',OwnB w' base v' (l++m.toList)→Below base W w'→base≤w'.heap.size→wpList P ops Q rest (a.put o.dst v') w'):wpList P ops Q (o::rest) a w:=by
 obtain⟨i0,hi,hz0,hz1,hz2⟩:=info_parts hinfo
 refine Lib.wpList_append_own_string w hgd s x t u ho base 5 i0 ht hu hi hz0 hz1 hz2 v l.length (bv l) hs hown m hx (by unfold maxLen;omega) (by omega) hbase ?_
 intro v' w' ho' hg _
 refine h v' w' ?_ (hB.grown hg hbase fun k hk=>(World.ownsRow.lt hown k hk).1) (Nat.le_trans hbase hg.size)
 unfold OwnB
 rw[str_bv,bv_append] at ho'
 rw[List.length_append,V.size_of]
 exact ho'
theorem packPut_any {D:Dm} (wf:Wf D) {T:Tm} (wt:WfT T) (t:Addr) (lim:Int) (F:List Fd) (hok:okS lim F=true) (p:Pt) (b:Option Addr) (cap:Nat) (a:Option Addr) (c:Nat) (w:World) (hmay:mayB p=true) (hfit:fitS F p=true) (htb:Tb D T t w)
 (hv:VI w 0 w.heap.size p (.iface 118 (.agg #[.slice b p.items.length cap]))) (hfi:FI w 0 w.heap.size F (.slice a F.length c)) :
 Calls prog 26 #[.pointer (some t),.agg #[.int .i64 lim,.slice a F.length c],.iface 118 (.agg #[.slice b p.items.length cap])] w fun e w'=>e=.returned (.tuple #[.string ⟨(encL (keyM D T) F p.items).toArray⟩,.nilIface])∧Below w.heap.size w w':=by
 obtain⟨K,hKK⟩:∃ K,keyM D T=K:=⟨_,rfl⟩
 have hK:KeyLen K:=by rw[← hKK];exact keyLen wf wt
 simp only [fitS,Bool.and_eq_true,beq_iff_eq] at hfit
 obtain⟨⟨hk,hlen⟩,hfit⟩:=hfit
 obtain⟨_,_,_,hF64,ho⟩:=okS_all hok
 have hcnt:=okS_cnt hok
 have HV:=zh hv
 have HFI:=zh hfi
 have HTB:=zh htb
 have HOK:=zh hok
 have HPT:=zh (fun (g:Fd) (hg:g∈F) (hff:FFit g)=>by have:=Put_any wf wt t g hff;rw[hKK,okS_one hok hg] at this;exact this)
 obtain⟨il,hm⟩:∃ m,F.length=m:=⟨_,rfl⟩
 rw[hm] at HFI hlen hF64 ⊢
 rw[hlen] at HV ⊢
 rw[hKK]
 have htot:(encL K F p.items).length≤cntL F*700000000:=encL_len (K:=K) F (fun g hg q h1 h2=>encF_len hK g 0 (ho g hg) q h1 h2) p.items (by omega) hfit (fun q hq=>V.mayB_item hmay hq)
 have htot2:(encL K F p.items).length≤64*700000000:=Nat.le_trans htot (Nat.mul_le_mul_right _ (by omega))
 have HO:=zh ho
 have HCNT:=zh hcnt
 have HTOT:=zh htot2
 have HHF:=zh hfit
 have HLEN:=zh hlen
 have HM:=zh hm
 clear hv hfi hok htb hcnt htot htot2 hfit hlen hm ho hKK
 have ta:∀ w:World,(Instr.typeAssert (.iface 118 (.agg #[.slice b il cap])) 34 84 false).run prog w=.ok (.iface 118 (.agg #[.slice b il cap])) w:=fun _=>by kernel_rfl
 have mA:∀ w:World,(method 512 118 (.agg #[.slice b il cap]) "At").run prog w=.ok (277,.agg #[.slice b il cap]) w:=fun _=>by kernel_rfl
 go_enter func26,ntmps26
 go_wp2_with fail
 go_loopw [9,19] (fun sv iv wr=>∃ (j:Nat) (l:List UInt8),j≤il∧iv=.int .i64 (j:Int)∧OwnB wr w.heap.size sv l∧Below w.heap.size w wr∧Hid (encL K F p.items=l++encL K (F.drop j) (p.items.drop j))∧Hid (fitL (F.drop j) (p.items.drop j)=true)) (fun _ iv _=>il-(intOf iv).toNat)
 case atStart=>exact⟨0,[],Nat.zero_le _,rfl,OwnB.nil _ _,zr.alloc lr _,zh rfl,zh HHF.out⟩
 case round =>
  obtain⟨j,l,hj,rfl,hO,hB,henc,hfitj⟩:=hrel
  have hss:l.length≤64*700000000:=by
   have h1:=HTOT.out
   rw[henc.out,List.length_append] at h1
   omega
  by_cases hlt:j<il
  · have q2:decide ((j:Int)<(il:Int))=true:=decide_eq_true (by omega)
    have hfi:=fi_later HFI.out hB
    obtain⟨a',c',he,hc,hpl⟩:=hfi.open
    injection he with e1 e2 e3
    subst e1 e3
    have hjF:j<F.length:=by omega
    have hjp:j<p.items.length:=by rw[HLEN.out];omega
    obtain⟨bb,off,u,rfl,_,hbh,hcl,hff,hsub⟩:=hpl j hjF
    obtain⟨k0,k1,k2,k3,k4,k5,k6,k7,k8,k9,k10,k11,k12,k13⟩:=hcl.all
    obtain⟨au,cu,rfl,hsc,hso⟩:=hsub.open
    obtain⟨gi,ui,rfl,_,hci,hvi⟩:=vi_item (vi_later HV.out hB) hk j hjp
    have hmq:=V.mayB_item hmay (List.getElem_mem hjp)
    have hgm:=List.getElem_mem hjF
    have hPT:=HPT.out F[j] hgm hff
    have hfd:=fitL_drop hjF hjp
    have hed:=encL_drop (K:=K) hjF hjp
    have hct:=cntL_mem hgm
    have hog:=HO.out F[j] hgm
    obtain⟨g,hg⟩:∃ g,F[j]=g:=⟨_,rfl⟩
    obtain⟨q,hq⟩:∃ q,p.items[j]=q:=⟨_,rfl⟩
    rw[hg] at k0 k1 k2 k3 k4 k5 k6 k7 k8 k9 k10 k11 k12 hff hsub hPT hfd hed hct hog k13
    rw[hq] at hvi hmq hfd hed
    rw[hfitj.out] at hfd
    have hfd2:=hfd.symm
    rw[Bool.and_eq_true] at hfd2
    have hgl:=encF_len hK g 0 hog q hfd2.1 hmq
    have hgl2:(encF K g q).length≤64*700000000:=Nat.le_trans hgl (Nat.mul_le_mul_right _ (Nat.le_trans hct HCNT.out))
    have HP:=zh (fun w' (hb:Below w.heap.size w w') hvv hff2=>by have:=hPT au cu q ui w' hmq (tb_later HTB.out hb) hvv hff2;rw[hfd2.1] at this;exact this)
    obtain⟨eg,heg⟩:∃ eg,encF K g q=eg:=⟨_,rfl⟩
    rw[heg] at HP hed hgl2
    have HED:=zh hed
    have HSUB:=zh hsub
    have HVI:=zh hvi
    have HB3:=zh hB
    have HO3:=zh hO
    have HF2:=zh hfd2.2
    have hcc:il≤c:=by have:=HM.out;omega
    have HHL:=zh (show l.length+(⟨eg.toArray⟩:ByteArray).size≤140737488355328 by rw[size_mk];omega)
    clear hfi hpl hcl hsub hvi hmq hPT hfd hg hq hff hB hsc hso e2 hc hjF hjp hgm hed hct hog hfd2 hgl hgl2 heg hss hO
    go_wp2_with fail
    generalize hW:wr.alloc (.cells _ 79)=w2
    have hBW:Below wr.heap.size wr w2:=by rw[← hW];exact zr.alloc lr _
    replace hci:=V.keeps hBW hci
    clear k0 k1 k2 k3 k4 k5 k6 k7 k8 k9 k10 k11 k12 k13
    have k0:w2.cell? ⟨wr.heap.size,0,none⟩=some (.string g.name):=by rw[← hW,cellA];rfl
    have k1:w2.cell? ⟨wr.heap.size,1,none⟩=some (.int .u8 g.kind):=by rw[← hW,cellA];rfl
    have k2:w2.cell? ⟨wr.heap.size,2,none⟩=some (.bool g.down):=by rw[← hW,cellA];rfl
    have k3:w2.cell? ⟨wr.heap.size,3,none⟩=some (.int .u8 g.nulls):=by rw[← hW,cellA];rfl
    have k4:w2.cell? ⟨wr.heap.size,4,none⟩=some (.bool g.bnd):=by rw[← hW,cellA];rfl
    have k5:w2.cell? ⟨wr.heap.size,5,none⟩=some (.bool g.lob):=by rw[← hW,cellA];rfl
    have k6:w2.cell? ⟨wr.heap.size,6,none⟩=some (.string g.lom):=by rw[← hW,cellA];rfl
    have k7:w2.cell? ⟨wr.heap.size,7,none⟩=some (.bool g.hib):=by rw[← hW,cellA];rfl
    have k8:w2.cell? ⟨wr.heap.size,8,none⟩=some (.string g.him):=by rw[← hW,cellA];rfl
    have k9:w2.cell? ⟨wr.heap.size,9,none⟩=some (.int .i64 g.most):=by rw[← hW,cellA];rfl
    have k10:w2.cell? ⟨wr.heap.size,10,none⟩=some (.int .i64 g.co.str):=by rw[← hW,cellA];rfl
    have k11:w2.cell? ⟨wr.heap.size,11,none⟩=some (.bool g.co.sh):=by rw[← hW,cellA];rfl
    have k12:w2.cell? ⟨wr.heap.size,12,none⟩=some (.bool g.co.back):=by rw[← hW,cellA];rfl
    have k13:w2.cell? ⟨wr.heap.size,13,none⟩=some (.slice au g.fields.length cu):=by rw[← hW,cellA];rfl
    have HBW:=zh hBW
    clear hW hBW
    have hbd:Below w2.heap.size w2 w2.drew:=(Below.refl w2.heap.size w2).drew
    go_region_held3 (fun w'=>w'.cell? ⟨wr.heap.size,0,none⟩=some (.string g.name)∧w'.cell? ⟨wr.heap.size,1,none⟩=some (.int .u8 g.kind)∧w'.cell? ⟨wr.heap.size,2,none⟩=some (.bool g.down)∧w'.cell? ⟨wr.heap.size,3,none⟩=some (.int .u8 g.nulls)∧w'.cell? ⟨wr.heap.size,4,none⟩=some (.bool g.bnd)∧w'.cell? ⟨wr.heap.size,5,none⟩=some (.bool g.lob)∧w'.cell? ⟨wr.heap.size,6,none⟩=some (.string g.lom)∧w'.cell? ⟨wr.heap.size,7,none⟩=some (.bool g.hib)∧w'.cell? ⟨wr.heap.size,8,none⟩=some (.string g.him)∧w'.cell? ⟨wr.heap.size,9,none⟩=some (.int .i64 g.most)∧w'.cell? ⟨wr.heap.size,10,none⟩=some (.int .i64 g.co.str)∧w'.cell? ⟨wr.heap.size,11,none⟩=some (.bool g.co.sh)∧w'.cell? ⟨wr.heap.size,12,none⟩=some (.bool g.co.back)∧w'.cell? ⟨wr.heap.size,13,none⟩=some (.slice au g.fields.length cu)∧w'.cell? ⟨gi,j,none⟩=some (ui)∧Below w2.heap.size w2 w') (go_keep) (first
     | (go_at_call 277;refine(at_in gi il cap j ui _ (by omega) (by omega) (by assumption)).mono ?_;rintro e w9 ⟨rfl,hb9⟩;have k0:=V.keeps hb9 (p:=⟨wr.heap.size,0,none⟩) (v:=.string g.name) (by assumption);have k1:=V.keeps hb9 (p:=⟨wr.heap.size,1,none⟩) (v:=.int .u8 g.kind) (by assumption);have k2:=V.keeps hb9 (p:=⟨wr.heap.size,2,none⟩) (v:=.bool g.down) (by assumption);have k3:=V.keeps hb9 (p:=⟨wr.heap.size,3,none⟩) (v:=.int .u8 g.nulls) (by assumption);have k4:=V.keeps hb9 (p:=⟨wr.heap.size,4,none⟩) (v:=.bool g.bnd) (by assumption);have k5:=V.keeps hb9 (p:=⟨wr.heap.size,5,none⟩) (v:=.bool g.lob) (by assumption);have k6:=V.keeps hb9 (p:=⟨wr.heap.size,6,none⟩) (v:=.string g.lom) (by assumption);have k7:=V.keeps hb9 (p:=⟨wr.heap.size,7,none⟩) (v:=.bool g.hib) (by assumption);have k8:=V.keeps hb9 (p:=⟨wr.heap.size,8,none⟩) (v:=.string g.him) (by assumption);have k9:=V.keeps hb9 (p:=⟨wr.heap.size,9,none⟩) (v:=.int .i64 g.most) (by assumption);have k10:=V.keeps hb9 (p:=⟨wr.heap.size,10,none⟩) (v:=.int .i64 g.co.str) (by assumption);have k11:=V.keeps hb9 (p:=⟨wr.heap.size,11,none⟩) (v:=.bool g.co.sh) (by assumption);have k12:=V.keeps hb9 (p:=⟨wr.heap.size,12,none⟩) (v:=.bool g.co.back) (by assumption);have k13:=V.keeps hb9 (p:=⟨wr.heap.size,13,none⟩) (v:=.slice au g.fields.length cu) (by assumption);have k14:=V.keeps hb9 (p:=⟨gi,j,none⟩) (v:=ui) (by assumption);have kb:=V.two (a:=_) (by assumption) hb9)
     | (go_at_call 47;have hcur:=(show Below w2.heap.size w2 _ from by assumption);refine(HP.out _ (HB3.out.trans ((HBW.out.trans (hcur.mono HBW.out.size)).mono HB3.out.size)) (vi_later HVI.out (HBW.out.trans (hcur.mono HBW.out.size))) (fi_later HSUB.out (HBW.out.trans (hcur.mono HBW.out.size)))).mono ?_;rintro e w9 ⟨rfl,hb9⟩;have k0:=V.keeps hb9 (p:=⟨wr.heap.size,0,none⟩) (v:=.string g.name) (by assumption);have k1:=V.keeps hb9 (p:=⟨wr.heap.size,1,none⟩) (v:=.int .u8 g.kind) (by assumption);have k2:=V.keeps hb9 (p:=⟨wr.heap.size,2,none⟩) (v:=.bool g.down) (by assumption);have k3:=V.keeps hb9 (p:=⟨wr.heap.size,3,none⟩) (v:=.int .u8 g.nulls) (by assumption);have k4:=V.keeps hb9 (p:=⟨wr.heap.size,4,none⟩) (v:=.bool g.bnd) (by assumption);have k5:=V.keeps hb9 (p:=⟨wr.heap.size,5,none⟩) (v:=.bool g.lob) (by assumption);have k6:=V.keeps hb9 (p:=⟨wr.heap.size,6,none⟩) (v:=.string g.lom) (by assumption);have k7:=V.keeps hb9 (p:=⟨wr.heap.size,7,none⟩) (v:=.bool g.hib) (by assumption);have k8:=V.keeps hb9 (p:=⟨wr.heap.size,8,none⟩) (v:=.string g.him) (by assumption);have k9:=V.keeps hb9 (p:=⟨wr.heap.size,9,none⟩) (v:=.int .i64 g.most) (by assumption);have k10:=V.keeps hb9 (p:=⟨wr.heap.size,10,none⟩) (v:=.int .i64 g.co.str) (by assumption);have k11:=V.keeps hb9 (p:=⟨wr.heap.size,11,none⟩) (v:=.bool g.co.sh) (by assumption);have k12:=V.keeps hb9 (p:=⟨wr.heap.size,12,none⟩) (v:=.bool g.co.back) (by assumption);have k13:=V.keeps hb9 (p:=⟨wr.heap.size,13,none⟩) (v:=.slice au g.fields.length cu) (by assumption);have k14:=V.keeps hb9 (p:=⟨gi,j,none⟩) (v:=ui) (by assumption);have kb:=V.two (a:=_) (by assumption) hb9))
    have HBX:=zh (HBW.out.trans (kb.mono HBW.out.size))
    have HB4:=zh (HB3.out.trans (HBX.out.mono HB3.out.size))
    have HO4:=zh (HO3.out.below HBX.out)
    clear kb hbd
    go_wp2_with (at_builtin;refine wpList_append_str rfl (.tmp 36) (.tmp 37) 99 9 rfl underlying99 underlying9 We.keyInfo5 rfl HO4.out ⟨eg.toArray⟩ rfl HHL.out HB4.out HB4.out.size ?_;intro v5 w5 hO5 hB5 hs5)
    exact⟨⟨j+1,_,by omega,by simp,hO5,hB5,zh (by rw[henc.out,HED.out,toList_mk eg,List.append_assoc]),zh HF2.out⟩,by simp[intOf];omega⟩
  · have q2:decide ((j:Int)<(il:Int))=false:=decide_eq_false (by omega)
    have HE:=zh (show encL K F p.items=l by rw[henc.out,List.drop_of_length_le (show F.length≤j by rw[HM.out];omega),encL_nil,List.append_nil])
    have hcv:=hO.conv 99 9 underlying99 underlying5 underlying9
    have HB5:=zh hB
    clear hB hss
    go_wp2_with fail
    refine bodyPost_ret (v:=.tuple #[.string ⟨l.toArray⟩,.nilIface]) (by simp[results,Tryz.f26]) rfl ?_
    exact⟨by rw[HE.out],HB5.out⟩
theorem f2 {w:World} {g:Nat} {t:TypeId} {v0 v1:Value} (h:Blk w g t #[v0,v1]):w.cell? ⟨g,0,none⟩=some v0∧w.cell? ⟨g,1,none⟩=some v1:=⟨h.cell 0,h.cell 1⟩
theorem packRefused_any (lim:Int) (F:List Fd) (a:Option Addr) (c:Nat) (t:Addr) (w:World) (hl:F.length≤140737488351232) (hfi:FI w 0 w.heap.size F (.slice a F.length c)) :
 Calls prog 21 #[.pointer (some t),.agg #[.int .i64 lim,.slice a F.length c]] w (ErrPost (okS lim F) w):=by
 have HS:=zh (fun o=>SCheck_any lim F a c (w.alloc o) hl (fi_later hfi (zr.alloc lr o)))
 obtain⟨X,hX⟩:∃ X,okS lim F=X:=⟨_,rfl⟩
 obtain⟨m,hm⟩:∃ m,F.length=m:=⟨_,rfl⟩
 rw[hX,hm] at HS
 rw[hX,hm]
 clear hX hm hfi hl
 cases X with
 | true =>
  go_enter func21,ntmps21
  go_wp2_with (go_at_call 27;refine(HS.out _).mono ?_;intro e w1 he;obtain⟨rfl,hb1⟩:=he.yes;have HB:=zh ((zr.alloc lr _).trans (hb1.mono (by simp))))
  go_ret
  exact ErrPost.ok HB.out
 | false =>
  go_enter func21,ntmps21
  go_wp2_with (go_at_call 27;refine(HS.out _).mono ?_;intro e w1 he;obtain⟨⟨fb,rfl⟩,hb1⟩:=he.no;have HB:=zh ((zr.alloc lr _).trans (hb1.mono (by simp))))
  go_ret
  exact ErrPost.new rfl HB.out (.inr ⟨_,_,rfl⟩)
def EncPost (r:Option (List UInt8)) (w:World) (e:Ending) (w':World):Prop :=
 (match r with
  | some l=>e=.returned (.tuple #[.string ⟨l.toArray⟩,.nilIface])
  | none=>∃ fb:Nat,e=.returned (.tuple #[.string ⟨#[]⟩,.iface 39 (.pointer (some ⟨fb,0,none⟩))]))∧Below w.heap.size w w'
theorem vi_tuple {w:World} {lo hi:Nat} {p:Pt} {v:Value} (h:VI w lo hi p v) (hk:p.kind=7):∃ b cap,v=.iface 118 (.agg #[.slice b p.items.length cap]):=by
 cases h with
 | null _ h=>omega
 | truth _ h=>omega
 | whole _ h=>omega
 | row _ _ _ _ h=>omega
 | tuple _ h a cap F hc cells deep=>exact⟨a,cap,rfl⟩
theorem Encode_any {D:Dm} (wf:Wf D) {T:Tm} (wt:WfT T) (t:Addr) (lim:Int) (F:List Fd) (p:Pt) (v:Value) (a:Option Addr) (c:Nat) (w:World) (hl:F.length≤140737488351232) (hmay:mayB p=true) (htb:Tb D T t w)
 (hv:VI w 0 w.heap.size p v) (hfi:FI w 0 w.heap.size F (.slice a F.length c)) :
 Calls prog 9 #[.pointer (some t),.agg #[.int .i64 lim,.slice a F.length c],v] w (EncPost (encS (keyM D T) lim F p) w):=by
 have hvs:v=.nilIface∨∃ T V,v=.iface T V:=by
  by_cases h0:p.kind=0
  · exact .inl (hv.nilOf h0)
  · obtain⟨T,V,_,h,_⟩:=hv.kindOf h0
    exact .inr ⟨T,V,h⟩
 have HR:=zh (fun (w':World) (hb:Below w.heap.size w w')=>packRefused_any lim F a c t w' hl (fi_later hfi hb))
 have HC:=zh (fun (w':World) (hb:Below w.heap.size w w')=>fitCheck_any lim F a c p v w' hl hmay (vi_later hv hb) (fi_later hfi hb))
 cases hok:okS lim F with
 | false =>
  rw[show encS (keyM D T) lim F p=none by unfold encS;rw[hok];rfl]
  rw[hok] at HR
  obtain⟨m,hm⟩:∃ m,F.length=m:=⟨_,rfl⟩
  rw[hm] at HR ⊢
  clear hv hfi hok hl hmay hm htb HC
  rcases hvs with rfl | ⟨U,V,rfl⟩
  all_goals
   go_enter func9,ntmps9
   go_wp2_with (go_at_call 21;refine(HR.out _ (zr.alloc lr _)).mono ?_;intro e w1 he;obtain⟨fb,⟨_,rfl,_⟩,hb1⟩:=he.no;have HB:=zh ((zr.alloc lr _).trans (hb1.mono (by simp))))
   refine bodyPost_ret (v:=.tuple #[.string ⟨#[]⟩,.iface 39 (.pointer (some ⟨fb,0,none⟩))]) (by simp[results,Tryz.f9]) rfl ?_
   exact⟨⟨fb,rfl⟩,HB.out⟩
 | true =>
  rw[hok] at HR
  rw[hok,Bool.true_and] at HC
  cases hfs:fitS F p with
  | false =>
   rw[show encS (keyM D T) lim F p=none by unfold encS;rw[hfs,Bool.and_false];rfl]
   rw[hfs] at HC
   obtain⟨m,hm⟩:∃ m,F.length=m:=⟨_,rfl⟩
   rw[hm] at HR HC ⊢
   clear hv hfi hok hl hmay hm htb hfs
   rcases hvs with rfl | ⟨U,V,rfl⟩
   all_goals
    go_enter func9,ntmps9
    go_wp2_with (first
     | (go_at_call 21;refine(HR.out _ (zr.alloc lr _)).mono ?_;intro e w1 he;obtain⟨rfl,hb1⟩:=he.yes;have HB:=zh ((zr.alloc lr _).trans (hb1.mono (by simp)));obtain⟨c0,c1⟩:=f2 (Blk.below (Blk.new w 26 #[.int .i64 lim,.slice a m c]) hb1 (by simp)))
     | (go_at_call 10;refine(HC.out _ HB.out).mono ?_;intro e w2 he2;obtain⟨fb,⟨_,rfl,_⟩,hb2⟩:=he2.no;have HB2:=zh (HB.out.trans (hb2.mono HB.out.size))))
    refine bodyPost_ret (v:=.tuple #[.string ⟨#[]⟩,.iface 39 (.pointer (some ⟨fb,0,none⟩))]) (by simp[results,Tryz.f9]) rfl ?_
    exact⟨⟨fb,rfl⟩,HB2.out⟩
  | true =>
   have hk7:p.kind=7:=by
    unfold fitS at hfs
    simp only [Bool.and_eq_true,beq_iff_eq] at hfs
    exact hfs.1.1
   obtain⟨b,cap,rfl⟩:=vi_tuple hv hk7
   have HP:=zh (fun (w':World) (hb:Below w.heap.size w w')=>packPut_any wf wt t lim F hok p b cap a c w' hmay hfs (tb_later htb hb) (vi_later hv hb) (fi_later hfi hb))
   have henc:encS (keyM D T) lim F p=if decide (((encL (keyM D T) F p.items).length:Int)≤lim) then some (encL (keyM D T) F p.items) else none:=by
    unfold encS;rw[hok,hfs];rfl
   rw[henc]
   rw[hfs] at HC
   obtain⟨E,hE⟩:∃ E,encL (keyM D T) F p.items=E:=⟨_,rfl⟩
   rw[hE] at HP ⊢
   obtain⟨m,hm⟩:∃ m,F.length=m:=⟨_,rfl⟩
   obtain⟨il,hil⟩:∃ m,p.items.length=m:=⟨_,rfl⟩
   rw[hm] at HR HC HP ⊢
   rw[hil] at HC HP ⊢
   clear hv hfi hok hl hmay hm htb hfs hE henc hil hk7 hvs
   by_cases hlt:lim<(E.length:Int)
   · rw[decide_eq_false (show ¬ (E.length:Int)≤lim by omega),if_neg (by decide)]
     have q1:decide (lim<(E.length:Int))=true:=decide_eq_true hlt
     go_enter func9,ntmps9
     go_wp2_with (first
      | (go_at_call 21;refine(HR.out _ (zr.alloc lr _)).mono ?_;intro e w1 he;obtain⟨rfl,hb1⟩:=he.yes;have HB:=zh ((zr.alloc lr _).trans (hb1.mono (by simp)));have HBF:=zh (Blk.below (Blk.new w 26 #[.int .i64 lim,.slice a m c]) hb1 (by simp));obtain⟨c0,c1⟩:=f2 HBF.out)
      | (go_at_call 10;refine(HC.out _ HB.out).mono ?_;intro e w2 he2;obtain⟨rfl,hb2⟩:=he2.yes;have HB2:=zh (HB.out.trans (hb2.mono HB.out.size));have HBG:=zh (Blk.below HBF.out hb2 HBF.out.lt);obtain⟨d0,d1⟩:=f2 HBG.out)
      | (go_at_call 26;refine(HP.out _ HB2.out).mono ?_;rintro e w3 ⟨rfl,hb3⟩;have HB3:=zh (HB2.out.trans (hb3.mono HB2.out.size));obtain⟨e0,e1⟩:=f2 (Blk.below HBG.out hb3 HBG.out.lt)))
     refine bodyPost_ret (v:=.tuple #[.string ⟨#[]⟩,.iface 39 (.pointer (some ⟨w3.heap.size,0,none⟩))]) (by simp[results,Tryz.f9]) rfl ?_
     exact⟨⟨_,rfl⟩,HB3.out.alloc HB3.out.size _⟩
   · rw[decide_eq_true (show (E.length:Int)≤lim by omega),if_pos rfl]
     have q1:decide (lim<(E.length:Int))=false:=decide_eq_false hlt
     have hle:(E.length:Int)≤lim:=by omega
     clear hlt
     go_enter func9,ntmps9
     go_wp2_with (first
      | (go_at_call 21;refine(HR.out _ (zr.alloc lr _)).mono ?_;intro e w1 he;obtain⟨rfl,hb1⟩:=he.yes;have HB:=zh ((zr.alloc lr _).trans (hb1.mono (by simp)));have HBF:=zh (Blk.below (Blk.new w 26 #[.int .i64 lim,.slice a m c]) hb1 (by simp));obtain⟨c0,c1⟩:=f2 HBF.out)
      | (go_at_call 10;refine(HC.out _ HB.out).mono ?_;intro e w2 he2;obtain⟨rfl,hb2⟩:=he2.yes;have HB2:=zh (HB.out.trans (hb2.mono HB.out.size));have HBG:=zh (Blk.below HBF.out hb2 HBF.out.lt);obtain⟨d0,d1⟩:=f2 HBG.out)
      | (go_at_call 26;refine(HP.out _ HB2.out).mono ?_;rintro e w3 ⟨rfl,hb3⟩;have HB3:=zh (HB2.out.trans (hb3.mono HB2.out.size));obtain⟨e0,e1⟩:=f2 (Blk.below HBG.out hb3 HBG.out.lt)))
     refine bodyPost_ret (v:=.tuple #[.string ⟨E.toArray⟩,.nilIface]) (by simp[results,Tryz.f9]) rfl ?_
     exact⟨rfl,HB3.out⟩
