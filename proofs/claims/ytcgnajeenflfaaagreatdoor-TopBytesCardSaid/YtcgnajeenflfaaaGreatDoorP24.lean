import Derived.Deep.Slices
import Derived.OpenShut
import Derived.ProofKit
import Derived.ShutString
import Derived.Stop.IfaceNil
import Derived.Test.YtcgnajeenflfaaaGreatDoorP17
set_option maxRecDepth 100000
set_option maxHeartbeats 4000000
set_option linter.all false
open Go.Proofs.Tryz Go.RowKit
namespace Go.Proofs.YtcgnajeenflfaaaGreatDoor
section
def SizePost (b:Nat) (s:ByteArray) (a:Nat) (w:World) (e:Ending) (w':World):Prop :=
 match sizeE s.toList a with
 | .error p=>e=badAt p∧Mv b w w'
 | .ok (k,below,f)=>e=.returned (.tuple #[.int .i64 k,.bool below])∧Rd w' b s f∧Mv b w w'
theorem at_some (s:ByteArray) (a:Nat) (h:a<s.size):s.toList[a]?=some s[a]:=by
 rw[Lib.toList_data,List.getElem?_eq_getElem (by simpa using h)]
 rfl
theorem at_none (s:ByteArray) (a:Nat) (h:¬ a<s.size):s.toList[a]?=none :=
 List.getElem?_eq_none (by rw[size_of];omega)
theorem post_bad {b:Nat} {s:ByteArray} {a:Nat} {w w':World} {p:Nat} {x:Int} (h:sizeE s.toList a=.error p) (hx:x=p) (hm:Mv b w w'):SizePost b s a w (badAt x) w':=by
 unfold SizePost
 rw[h,hx]
 exact⟨rfl,hm⟩
theorem post_good {b:Nat} {s:ByteArray} {a:Nat} {w w':World} {k f:Nat} {below:Bool} {x:Int} (h:sizeE s.toList a=.ok (k,below,f)) (hx:x=k) (hr:Rd w' b s f) (hm:Mv b w w') :
 SizePost b s a w (.returned (.tuple #[.int .i64 x,.bool below])) w':=by
 unfold SizePost
 rw[h,hx]
 exact⟨rfl,hr,hm⟩
theorem size_any (b:Nat) (s:ByteArray) (a:Nat) (w:World) (hr:Rd w b s a) (ha:a≤s.size) (hs:s.size≤9223372036854775807) :
 Calls prog 169 #[.pointer (some ⟨b,0,none⟩)] w (SizePost b s a w):=by
 by_cases h0:a<s.size
 · have E0:=at_some s a h0
   have hb:=s[a].toNat_lt
   by_cases hff:s[a].toNat=255
   · have q1:((s[a].toNat:Int)==255)=true:=by simp[hff]
     by_cases h1:a+1<s.size
     · have E1:=at_some s (a+1) h1
       have hn:=s[a+1].toNat_lt
       by_cases hg:126<s[a+1].toNat
       · have q2:decide ((126:Int)<(s[a+1].toNat:Int))=true:=by simp;omega
         have hE:=zh (show sizeE s.toList a=.ok (s[a+1].toNat,false,a+2) by simp[sizeE,E0,E1,hff,hg])
         clear E0 E1 hff hg
         go_enter func169,ntmps169
         go_wp2_with fail
         refine(next_ok b s a _ hr h0 hs).mono ?_
         rintro e w1 ⟨rfl,hr1,hm1⟩
         go_wp2_with fail
         refine(next_ok b s (a+1) _ hr1 h1 hs).mono ?_
         rintro e w2 ⟨rfl,hr2,hm2⟩
         have c1:w2.cell? ⟨b,1,none⟩=some (.int .i64 ((a+1+1:Nat):Int)):=hr2.cell 1
         go_wp2_with fail
         refine(must_yes _ _).mono ?_
         rintro e w3 ⟨rfl,rfl⟩
         go_wp2
         go_ret2
         exact post_good hE.out rfl hr2 (hm1.trans hm2)
       · have q2:decide ((126:Int)<(s[a+1].toNat:Int))=false:=by simp;omega
         have hE:=zh (show sizeE s.toList a=.error (a+1) by simp[sizeE,E0,E1,hff,hg])
         clear E0 E1 hff hg
         go_enter func169,ntmps169
         go_wp2_with fail
         refine(next_ok b s a _ hr h0 hs).mono ?_
         rintro e w1 ⟨rfl,hr1,hm1⟩
         go_wp2_with fail
         refine(next_ok b s (a+1) _ hr1 h1 hs).mono ?_
         rintro e w2 ⟨rfl,hr2,hm2⟩
         have c1:w2.cell? ⟨b,1,none⟩=some (.int .i64 ((a+1+1:Nat):Int)):=hr2.cell 1
         go_wp2_with fail
         refine(must_no _ _).mono ?_
         rintro e w3 ⟨rfl,rfl⟩
         exact⟨rfl,post_bad hE.out (by omega) (hm1.trans hm2)⟩
     · have hE:=zh (show sizeE s.toList a=.error s.toList.length by simp[sizeE,E0,at_none s (a+1) h1,hff])
       have hsz:s.size=a+1:=by omega
       clear E0 hff
       go_enter func169,ntmps169
       go_wp2_with fail
       refine(next_ok b s a _ hr h0 hs).mono ?_
       rintro e w1 ⟨rfl,hr1,hm1⟩
       rw[← hsz] at hr1
       go_wp2_with fail
       refine(next_no b s _ hr1 hs).mono ?_
       rintro e w2 ⟨rfl,hm2⟩
       exact⟨rfl,post_bad hE.out (by rw[size_of]) (hm1.trans hm2)⟩
   · have q1:((s[a].toNat:Int)==255)=false:=by simp;omega
     by_cases h128:128≤s[a].toNat
     · have q2:decide ((128:Int)≤(s[a].toNat:Int))=true:=by simp;omega
       have hE:=zh (show sizeE s.toList a=.ok (s[a].toNat-128,false,a+1) by simp[sizeE,E0,hff,h128])
       have hge:(128:Int)≤(s[a].toNat:Int):=by omega
       clear E0 hff h128
       go_enter func169,ntmps169
       go_wp2_with fail
       refine(next_ok b s a _ hr h0 hs).mono ?_
       rintro e w1 ⟨rfl,hr1,hm1⟩
       go_wp2
       go_ret2
       exact post_good hE.out (by omega) hr1 hm1
     · have q2:decide ((128:Int)≤(s[a].toNat:Int))=false:=by simp;omega
       by_cases h2:2≤s[a].toNat
       · have q3:decide ((2:Int)≤(s[a].toNat:Int))=true:=by simp;omega
         have hE:=zh (show sizeE s.toList a=.ok (128-s[a].toNat,true,a+1) by simp[sizeE,E0,hff,h128,h2])
         have hge:¬ (128:Int)≤(s[a].toNat:Int):=by omega
         clear E0 hff h128 h2
         go_enter func169,ntmps169
         go_wp2_with fail
         refine(next_ok b s a _ hr h0 hs).mono ?_
         rintro e w1 ⟨rfl,hr1,hm1⟩
         go_wp2
         go_ret2
         exact post_good hE.out (by omega) hr1 hm1
       · have q3:decide ((2:Int)≤(s[a].toNat:Int))=false:=by simp;omega
         by_cases h1b:s[a].toNat=1
         · have q4:((s[a].toNat:Int)==1)=true:=by simp[h1b]
           by_cases h1:a+1<s.size
           · have E1:=at_some s (a+1) h1
             have hn:=s[a+1].toNat_lt
             by_cases hg:126<255-s[a+1].toNat
             · have q5:decide ((126:Int)<255-(s[a+1].toNat:Int))=true:=by simp;omega
               have hE:=zh (show sizeE s.toList a=.ok (255-s[a+1].toNat,true,a+2) by simp[sizeE,E0,E1,h1b,hg])
               have hgt:(126:Int)<255-(s[a+1].toNat:Int):=by omega
               clear E0 E1 hff hg h128 h2 h1b
               go_enter func169,ntmps169
               go_wp2_with fail
               refine(next_ok b s a _ hr h0 hs).mono ?_
               rintro e w1 ⟨rfl,hr1,hm1⟩
               have d1:w1.cell? ⟨b,1,none⟩=some (.int .i64 ((a+1:Nat):Int)):=hr1.cell 1
               go_wp2_with fail
               refine(must_yes _ _).mono ?_
               rintro e w2 ⟨rfl,rfl⟩
               go_wp2_with fail
               refine(next_ok b s (a+1) _ hr1 h1 hs).mono ?_
               rintro e w2 ⟨rfl,hr2,hm2⟩
               have c1:w2.cell? ⟨b,1,none⟩=some (.int .i64 ((a+1+1:Nat):Int)):=hr2.cell 1
               go_wp2_with fail
               refine(must_yes _ _).mono ?_
               rintro e w3 ⟨rfl,rfl⟩
               go_wp2
               go_ret2
               exact post_good hE.out (by omega) hr2 (hm1.trans hm2)
             · have q5:decide ((126:Int)<255-(s[a+1].toNat:Int))=false:=by simp;omega
               have hE:=zh (show sizeE s.toList a=.error (a+1) by simp[sizeE,E0,E1,h1b,hg])
               clear E0 E1 hff hg h128 h2 h1b
               go_enter func169,ntmps169
               go_wp2_with fail
               refine(next_ok b s a _ hr h0 hs).mono ?_
               rintro e w1 ⟨rfl,hr1,hm1⟩
               have d1:w1.cell? ⟨b,1,none⟩=some (.int .i64 ((a+1:Nat):Int)):=hr1.cell 1
               go_wp2_with fail
               refine(must_yes _ _).mono ?_
               rintro e w2 ⟨rfl,rfl⟩
               go_wp2_with fail
               refine(next_ok b s (a+1) _ hr1 h1 hs).mono ?_
               rintro e w2 ⟨rfl,hr2,hm2⟩
               have c1:w2.cell? ⟨b,1,none⟩=some (.int .i64 ((a+1+1:Nat):Int)):=hr2.cell 1
               go_wp2_with fail
               refine(must_no _ _).mono ?_
               rintro e w3 ⟨rfl,rfl⟩
               exact⟨rfl,post_bad hE.out (by omega) (hm1.trans hm2)⟩
           · have hE:=zh (show sizeE s.toList a=.error s.toList.length by simp[sizeE,E0,at_none s (a+1) h1,h1b])
             have hsz:s.size=a+1:=by omega
             clear E0 hff h128 h2 h1b
             go_enter func169,ntmps169
             go_wp2_with fail
             refine(next_ok b s a _ hr h0 hs).mono ?_
             rintro e w1 ⟨rfl,hr1,hm1⟩
             have d1:w1.cell? ⟨b,1,none⟩=some (.int .i64 ((a+1:Nat):Int)):=hr1.cell 1
             go_wp2_with fail
             refine(must_yes _ _).mono ?_
             rintro e w2 ⟨rfl,rfl⟩
             rw[← hsz] at hr1
             go_wp2_with fail
             refine(next_no b s _ hr1 hs).mono ?_
             rintro e w2 ⟨rfl,hm2⟩
             exact⟨rfl,post_bad hE.out (by rw[size_of]) (hm1.trans hm2)⟩
         · have q4:((s[a].toNat:Int)==1)=false:=by simp;omega
           have hE:=zh (show sizeE s.toList a=.error a by simp[sizeE,E0,hff,h128,h2,h1b])
           clear E0 hff h128 h2 h1b
           go_enter func169,ntmps169
           go_wp2_with fail
           refine(next_ok b s a _ hr h0 hs).mono ?_
           rintro e w1 ⟨rfl,hr1,hm1⟩
           have d1:w1.cell? ⟨b,1,none⟩=some (.int .i64 ((a+1:Nat):Int)):=hr1.cell 1
           go_wp2_with fail
           refine(must_no _ _).mono ?_
           rintro e w2 ⟨rfl,rfl⟩
           exact⟨rfl,post_bad hE.out (by omega) hm1⟩
 · have hE:=zh (show sizeE s.toList a=.error s.toList.length by simp[sizeE,at_none s a h0])
   have hsz:s.size=a:=by omega
   rw[← hsz] at hr
   go_enter func169,ntmps169
   go_wp2_with fail
   refine(next_no b s _ hr hs).mono ?_
   rintro e w2 ⟨rfl,hm2⟩
   exact⟨rfl,post_bad hE.out (by rw[size_of]) hm2⟩
end
namespace Lo
theorem lower_any (c:Int) (w:World):Calls prog 192 #[.int .u8 c] w fun e w'=>e=.returned (.int .u8 (bits .or .u8 c 32))∧w'=w:=by
 go_enter func192,ntmps192
 go_wp2
 go_ret
 exact⟨rfl,rfl⟩
theorem pu_empty (base bs:Int) (w:World):Calls prog 160 #[.string ⟨#[]⟩,.int .i64 base,.int .i64 bs] w fun e w'=>e=.returned (.tuple #[.int .u64 0,.iface 275 (.int .i64 2)])∧w'=w:=by
 go_enter func160,ntmps160
 go_wp2
 go_ret2
 exact⟨rfl,rfl⟩
theorem pu_16 (t:ByteArray) (hne:t.size≠0) (hmax:t.size≤9223372036854775806) (w:World) :
 Calls prog 160 #[.string t,.int .i64 16,.int .i64 16] w fun e w'=>PuPost 65535 t.data.toList e∧w'=Lib.bytesWorld w 5 t:=by
 have hemp:t.toList.isEmpty=false:=by
  rw[← decide_eq_emptyBytes]
  exact decide_eq_false (fun h=>hne (by rw[h];rfl))
 have hcv:=Lib.run_convert_string_bytes (P:=prog) w 9 99 5 t (u:=.string) underlying9 underlying99 underlying5
 have hB:∀ j,j<t.size→(Lib.bytesWorld w 5 t).cell? ⟨w.heap.size,j,none⟩=some (.int .u8 (t.data.toList.getD j 0).toNat):=fun j hj=>Lib.bytesWorld_cell w 5 t j hj
 obtain⟨W1,hW1⟩:∃ W1,W1=Lib.bytesWorld w 5 t:=⟨_,rfl⟩
 rw[← hW1] at hcv hB ⊢
 clear hW1
 obtain⟨bs,hL⟩:∃ bs,bs=t.data.toList:=⟨_,rfl⟩
 have hLn:bs.length=t.size:=by rw[hL,Lib.size_eq]
 rw[← hL] at hB ⊢
 clear hL
 have hmv:IntKind.u64.wrap (IntKind.u64.wrap 65536-1)=65535:=by
  rw[IntKind.wrap_u64,IntKind.wrap_u64]
  decide
 go_enter func160,ntmps160
 go_wp2_with fail
 go_loop [12,13,101] (fun vu vn vi=>∃ (k:Nat) (a:Int),vu=.bool false∧vn=.int .u64 a∧vi=.int .i64 k∧k≤t.size∧Hid (0≤a∧a≤65535∧a=hexV (bs.take k)))
  (fun _ _ vi=>t.size-(intOf vi).toNat)
 case atStart=>exact⟨0,0,rfl,rfl,rfl,Nat.zero_le _,zh ⟨by decide,by decide,rfl⟩⟩
 case round =>
  obtain⟨k,a,rfl,rfl,rfl,hk,hh⟩:=hrel
  obtain⟨a0,a1,-⟩:=hh.out
  by_cases hkn:k<t.size
  · have hc:=hB k hkn
    have hget:bs.getD k 0=bs[k]'(by omega):=by simp[List.getD,List.getElem?_eq_getElem (show k<bs.length by omega)]
    have HV:=zh (show a*16+dgV (bs[k]'(by omega))=hexV (bs.take (k+1)) by rw[hexV_take bs k (by omega),hh.out.2.2])
    rw[hget] at hc
    generalize bs[k]'(by omega)=c at hc HV
    have hc256:c.toNat<256:=c.toNat_lt
    clear hB hget
    obtain⟨v,hv⟩:∃ v,bits .or .u8 (c.toNat:Int) 32=v:=⟨_,rfl⟩
    have hv0:0≤v:=hv▸bits_lo_u8 .or (c.toNat:Int) 32
    have hv1:v≤255:=hv▸bits_hi_u8 .or (c.toNat:Int) 32
    by_cases hdig:48≤c.toNat∧c.toNat≤57
    · obtain⟨hd0,hd1⟩:=hdig
      have HD:=zh (show dgV c=(c.toNat:Int)-48 by unfold dgV;rw[if_pos ⟨hd0,hd1⟩])
      obtain⟨n1,hn1⟩:∃ n1,a*16+((c.toNat:Int)-48)=n1:=⟨_,rfl⟩
      by_cases hov:65535<n1
      · clear hv hv0 hv1
        go_wp2_with fail
        go_ret2
        exact⟨.far,rfl⟩
      · have hov2:n1≤65535:=by omega
        have HN:=zh (show 0≤n1∧n1≤65535∧n1=hexV (bs.take (k+1)) from⟨by omega,hov2,by rw[← HV.out,HD.out,hn1]⟩)
        clear hv hv0 hv1
        go_wp2_with fail
        refine⟨⟨k+1,n1,rfl,(by first | rfl | (congr 1;omega)),(by first | rfl | (congr 1;omega)),by omega,HN⟩,by simp[intOf];omega⟩
    · have HD:=zh (show dgV c=v-87 by unfold dgV;rw[if_neg hdig,hv])
      by_cases h95:c.toNat=95
      · have hc2:(c.toNat:Int)=95:=by omega
        rw[hc2] at hv hc
        clear HV HD hdig hc256 hv0 hv1 h95 hc2
        obtain rfl:v=127:=by rw[← hv];decide
        go_wp2_with (go_at_call 192;refine(lower_any _ _).mono ?_;rintro e w' ⟨rfl,rfl⟩;rw[hv])
        all_goals go_ret2
        all_goals exact⟨.bad,rfl⟩
      have q95:((c.toNat:Int)==95)=false:=by simp;omega
      by_cases h1:97≤v∧v≤122
      · obtain⟨h1,h2⟩:=h1
        by_cases h3:v-87<16
        · obtain⟨n1,hn1⟩:∃ n1,a*16+(v-87)=n1:=⟨_,rfl⟩
          by_cases hov:65535<n1
          · go_wp2_with (go_at_call 192;refine(lower_any _ _).mono ?_;rintro e w' ⟨rfl,rfl⟩;rw[hv])
            all_goals go_ret2
            all_goals exact⟨.far,rfl⟩
          · have hov2:n1≤65535:=by omega
            have HN:=zh (show 0≤n1∧n1≤65535∧n1=hexV (bs.take (k+1)) from⟨by omega,hov2,by rw[← HV.out,HD.out,hn1]⟩)
            go_wp2_with (go_at_call 192;refine(lower_any _ _).mono ?_;rintro e w' ⟨rfl,rfl⟩;rw[hv])
            all_goals refine⟨⟨k+1,n1,rfl,(by first | rfl | (congr 1;omega)),(by first | rfl | (congr 1;omega)),by omega,HN⟩,by simp[intOf];omega⟩
        · go_wp2_with (go_at_call 192;refine(lower_any _ _).mono ?_;rintro e w' ⟨rfl,rfl⟩;rw[hv])
          all_goals go_ret2
          all_goals exact⟨.bad,rfl⟩
      · go_wp2_with (go_at_call 192;refine(lower_any _ _).mono ?_;rintro e w' ⟨rfl,rfl⟩;rw[hv])
        all_goals go_ret2
        all_goals exact⟨.bad,rfl⟩
  · have hkk:k=t.size:=by omega
    subst hkk
    have HE:=zh (show a=hexV bs by rw[hh.out.2.2,List.take_of_length_le (by omega)])
    clear hh
    go_wp2_with fail
    go_ret2
    exact⟨.ok a0 a1 HE.out,rfl⟩
theorem pu_32 (t:ByteArray) (hne:t.size≠0) (hmax:t.size≤9223372036854775806) (w:World) :
 Calls prog 160 #[.string t,.int .i64 16,.int .i64 32] w fun e w'=>PuPost 4294967295 t.data.toList e∧w'=Lib.bytesWorld w 5 t:=by
 have hemp:t.toList.isEmpty=false:=by
  rw[← decide_eq_emptyBytes]
  exact decide_eq_false (fun h=>hne (by rw[h];rfl))
 have hcv:=Lib.run_convert_string_bytes (P:=prog) w 9 99 5 t (u:=.string) underlying9 underlying99 underlying5
 have hB:∀ j,j<t.size→(Lib.bytesWorld w 5 t).cell? ⟨w.heap.size,j,none⟩=some (.int .u8 (t.data.toList.getD j 0).toNat):=fun j hj=>Lib.bytesWorld_cell w 5 t j hj
 obtain⟨W1,hW1⟩:∃ W1,W1=Lib.bytesWorld w 5 t:=⟨_,rfl⟩
 rw[← hW1] at hcv hB ⊢
 clear hW1
 obtain⟨bs,hL⟩:∃ bs,bs=t.data.toList:=⟨_,rfl⟩
 have hLn:bs.length=t.size:=by rw[hL,Lib.size_eq]
 rw[← hL] at hB ⊢
 clear hL
 have hmv:IntKind.u64.wrap (IntKind.u64.wrap 4294967296-1)=4294967295:=by
  rw[IntKind.wrap_u64,IntKind.wrap_u64]
  decide
 go_enter func160,ntmps160
 go_wp2_with fail
 go_loop [12,13,101] (fun vu vn vi=>∃ (k:Nat) (a:Int),vu=.bool false∧vn=.int .u64 a∧vi=.int .i64 k∧k≤t.size∧Hid (0≤a∧a≤4294967295∧a=hexV (bs.take k)))
  (fun _ _ vi=>t.size-(intOf vi).toNat)
 case atStart=>exact⟨0,0,rfl,rfl,rfl,Nat.zero_le _,zh ⟨by decide,by decide,rfl⟩⟩
 case round =>
  obtain⟨k,a,rfl,rfl,rfl,hk,hh⟩:=hrel
  obtain⟨a0,a1,-⟩:=hh.out
  by_cases hkn:k<t.size
  · have hc:=hB k hkn
    have hget:bs.getD k 0=bs[k]'(by omega):=by simp[List.getD,List.getElem?_eq_getElem (show k<bs.length by omega)]
    have HV:=zh (show a*16+dgV (bs[k]'(by omega))=hexV (bs.take (k+1)) by rw[hexV_take bs k (by omega),hh.out.2.2])
    rw[hget] at hc
    generalize bs[k]'(by omega)=c at hc HV
    have hc256:c.toNat<256:=c.toNat_lt
    clear hB hget
    obtain⟨v,hv⟩:∃ v,bits .or .u8 (c.toNat:Int) 32=v:=⟨_,rfl⟩
    have hv0:0≤v:=hv▸bits_lo_u8 .or (c.toNat:Int) 32
    have hv1:v≤255:=hv▸bits_hi_u8 .or (c.toNat:Int) 32
    by_cases hdig:48≤c.toNat∧c.toNat≤57
    · obtain⟨hd0,hd1⟩:=hdig
      have HD:=zh (show dgV c=(c.toNat:Int)-48 by unfold dgV;rw[if_pos ⟨hd0,hd1⟩])
      obtain⟨n1,hn1⟩:∃ n1,a*16+((c.toNat:Int)-48)=n1:=⟨_,rfl⟩
      by_cases hov:4294967295<n1
      · clear hv hv0 hv1
        go_wp2_with fail
        go_ret2
        exact⟨.far,rfl⟩
      · have hov2:n1≤4294967295:=by omega
        have HN:=zh (show 0≤n1∧n1≤4294967295∧n1=hexV (bs.take (k+1)) from⟨by omega,hov2,by rw[← HV.out,HD.out,hn1]⟩)
        clear hv hv0 hv1
        go_wp2_with fail
        refine⟨⟨k+1,n1,rfl,(by first | rfl | (congr 1;omega)),(by first | rfl | (congr 1;omega)),by omega,HN⟩,by simp[intOf];omega⟩
    · have HD:=zh (show dgV c=v-87 by unfold dgV;rw[if_neg hdig,hv])
      by_cases h95:c.toNat=95
      · have hc2:(c.toNat:Int)=95:=by omega
        rw[hc2] at hv hc
        clear HV HD hdig hc256 hv0 hv1 h95 hc2
        obtain rfl:v=127:=by rw[← hv];decide
        go_wp2_with (go_at_call 192;refine(lower_any _ _).mono ?_;rintro e w' ⟨rfl,rfl⟩;rw[hv])
        all_goals go_ret2
        all_goals exact⟨.bad,rfl⟩
      have q95:((c.toNat:Int)==95)=false:=by simp;omega
      by_cases h1:97≤v∧v≤122
      · obtain⟨h1,h2⟩:=h1
        by_cases h3:v-87<16
        · obtain⟨n1,hn1⟩:∃ n1,a*16+(v-87)=n1:=⟨_,rfl⟩
          by_cases hov:4294967295<n1
          · go_wp2_with (go_at_call 192;refine(lower_any _ _).mono ?_;rintro e w' ⟨rfl,rfl⟩;rw[hv])
            all_goals go_ret2
            all_goals exact⟨.far,rfl⟩
          · have hov2:n1≤4294967295:=by omega
            have HN:=zh (show 0≤n1∧n1≤4294967295∧n1=hexV (bs.take (k+1)) from⟨by omega,hov2,by rw[← HV.out,HD.out,hn1]⟩)
            go_wp2_with (go_at_call 192;refine(lower_any _ _).mono ?_;rintro e w' ⟨rfl,rfl⟩;rw[hv])
            all_goals refine⟨⟨k+1,n1,rfl,(by first | rfl | (congr 1;omega)),(by first | rfl | (congr 1;omega)),by omega,HN⟩,by simp[intOf];omega⟩
        · go_wp2_with (go_at_call 192;refine(lower_any _ _).mono ?_;rintro e w' ⟨rfl,rfl⟩;rw[hv])
          all_goals go_ret2
          all_goals exact⟨.bad,rfl⟩
      · go_wp2_with (go_at_call 192;refine(lower_any _ _).mono ?_;rintro e w' ⟨rfl,rfl⟩;rw[hv])
        all_goals go_ret2
        all_goals exact⟨.bad,rfl⟩
  · have hkk:k=t.size:=by omega
    subst hkk
    have HE:=zh (show a=hexV bs by rw[hh.out.2.2,List.take_of_length_le (by omega)])
    clear hh
    go_wp2_with fail
    go_ret2
    exact⟨.ok a0 a1 HE.out,rfl⟩
open D (isI64)
theorem pu16_any (t:ByteArray) (hmax:t.size≤1048576) (w:World):Calls prog 160 #[.string t,.int .i64 16,.int .i64 16] w fun e w'=>PuPost 65535 t.data.toList e∧Below w.heap.size w w':=by
 by_cases h:t.size=0
 · obtain⟨⟨l⟩⟩:=t
   obtain rfl:l=[]:=by cases l<;>simp_all [ByteArray.size]
   refine(pu_empty 16 16 w).mono ?_
   rintro e w' ⟨rfl,rfl⟩
   exact⟨.bad,zr⟩
 · refine(pu_16 t h (by omega) w).mono ?_
   rintro e w' ⟨h1,rfl⟩
   exact⟨h1,Lib.bytesWorld_below _ _ _⟩
theorem pu32_any (t:ByteArray) (hmax:t.size≤1048576) (w:World):Calls prog 160 #[.string t,.int .i64 16,.int .i64 32] w fun e w'=>PuPost 4294967295 t.data.toList e∧Below w.heap.size w w':=by
 by_cases h:t.size=0
 · obtain⟨⟨l⟩⟩:=t
   obtain rfl:l=[]:=by cases l<;>simp_all [ByteArray.size]
   refine(pu_empty 16 32 w).mono ?_
   rintro e w' ⟨rfl,rfl⟩
   exact⟨.bad,zr⟩
 · refine(pu_32 t h (by omega) w).mono ?_
   rintro e w' ⟨h1,rfl⟩
   exact⟨h1,Lib.bytesWorld_below _ _ _⟩
def GErrs (w:World):Prop:=(∃ ev,w.cell? ⟨3,0,none⟩=some ev∧(ev=.nilIface∨∃ te pe,ev=.iface te pe))∧∃ ev,w.cell? ⟨4,0,none⟩=some ev∧(ev=.nilIface∨∃ te pe,ev=.iface te pe)
theorem GErrs.later {w w':World} (h:GErrs w) (hb:Below w.heap.size w w'):GErrs w':=by
 obtain⟨⟨e1,a1,b1⟩,e2,a2,b2⟩:=h
 exact⟨⟨e1,(hb.cell (p:=⟨3,0,none⟩) (World.block_lt_of_cell? _ _ a1)).trans a1,b1⟩,e2,(hb.cell (p:=⟨4,0,none⟩) (World.block_lt_of_cell? _ _ a2)).trans a2,b2⟩
theorem toErr_any (fn s:ByteArray) (base bs k:Int) (w:World) (hs:s.size≤1048576) (hk:k=1∨k=2) (hg:GErrs w) :
 Calls prog 117 #[.string fn,.string s,.int .i64 base,.int .i64 bs,.iface 275 (.int .i64 k)] w fun e w'=>∃ T V,e=.returned (.iface T V)∧Below w.heap.size w w':=by
 obtain⟨⟨e1,a1,b1⟩,e2,a2,b2⟩:=hg
 rcases hk with rfl | rfl
 · refine(Tryz.strconv_toError_range fn s base bs e2 w (by omega) a2 b2).mono ?_
   rintro e w' ⟨N,rfl,_,_,hb⟩
   exact⟨_,_,rfl,hb⟩
 · refine(Tryz.strconv_toError_syntax fn s base bs e1 w (by omega) a1 b1).mono ?_
   rintro e w' ⟨N,rfl,_,_,hb⟩
   exact⟨_,_,rfl,hb⟩
theorem ParseUint_any (t:ByteArray) (hmax:t.size≤1048576) (w:World) (hg:GErrs w):Calls prog 167 #[.string t,.int .i64 16,.int .i64 16] w fun e w'=>NumPost .u64 (fun a=>0≤a∧a≤65535∧a=hexV t.data.toList) e∧Below w.heap.size w w':=by
 have HG:=zh hg
 clear hg
 go_enter func167,ntmps167
 go_wp2_with fail
 refine(pu16_any t hmax w).mono ?_
 rintro e w1 ⟨h | h,hb⟩
 · obtain⟨a,rfl,h0,h1,h2⟩:=h
   have HX:=zh (And.intro h0 (And.intro h1 h2))
   clear h0 h1 h2
   go_wp2_with fail
   go_ret2
   exact⟨.inl ⟨a,rfl,by have:=HX.out;unfold isI64;omega,HX.out⟩,hb⟩
 · obtain⟨a,k,rfl,hk⟩:=h
   have HB:=zh hb
   have HK:=zh hk
   have hk':k=1∨k=2:=by omega
   have HT:=zh (toErr_any ⟨#[80,97,114,115,101,85,105,110,116]⟩ t 16 16 k w1 hmax hk' (HG.out.later hb))
   clear hk hb hk'
   go_wp2_with fail
   refine HT.out.mono ?_
   rintro e w2 ⟨T,V,rfl,hb2⟩
   go_wp2_with fail
   go_ret2
   exact⟨.inr ⟨a,T,V,rfl,by have:=HK.out;unfold isI64;omega⟩,HB.out.trans (hb2.mono HB.out.size)⟩
def PiPost (t:ByteArray) (e:Ending):Prop :=
 (∃ a:Int,e=.returned (.tuple #[.int .i64 a,.nilIface])∧isI64 a∧a=sgnV t.data.toList)∨∃ a k:Int,e=.returned (.tuple #[.int .i64 a,.iface 275 (.int .i64 k)])∧isI64 a∧(k=1∨k=2)
theorem tail_of {t:ByteArray} (hp:0<t.size):t.data.toList=t[0]::(t.extract 1 t.size).data.toList∧(t.extract 1 t.size).size≤t.size:=by
 obtain⟨⟨l⟩⟩:=t
 cases l with
 | nil=>cases hp
 | cons c r =>
  constructor
  · have h2:(ByteArray.extract ⟨⟨c::r⟩⟩ 1 (ByteArray.size ⟨⟨c::r⟩⟩)).data.toList=r:=by
     rw[ByteArray.data_extract,Array.toList_extract]
     simp[ByteArray.size,List.extract]
    rw[h2]
    rfl
  · rw[ByteArray.size_extract];omega
theorem pi_plus (t:ByteArray) (hmax:t.size≤1048576) (w:World) (hp:0<t.size) (hc:t[0]=43):Calls prog 120 #[.string t,.int .i64 16,.int .i64 32] w fun e w'=>PiPost t e∧Below w.heap.size w w':=by
 have hemp:t.toList.isEmpty=false:=by
  rw[← decide_eq_emptyBytes]
  exact decide_eq_false (fun e=>by rw[e] at hp;cases hp)
 have hcut:IntKind.u64.wrap 2147483648=2147483648:=by rw[IntKind.wrap_u64];decide
 have hn2:∀ w:World,(binOp .neq 36 (.iface 275 (.int .i64 2)) (.iface 275 (.int .i64 1))).run prog w=.ok (.bool true) w:=fun _=>by kernel_rfl
 have hn1:∀ w:World,(binOp .neq 36 (.iface 275 (.int .i64 1)) (.iface 275 (.int .i64 1))).run prog w=.ok (.bool false) w:=fun _=>by kernel_rfl
 have HS:=zh (show sgnV t.data.toList =  hexV (t.extract 1 t.size).data.toList from by rw[(tail_of hp).1,hc];rfl)
 have HP:=zh (pu32_any (t.extract 1 t.size) (by have:=(tail_of hp).2;omega) w)
 have hc2:((t[0].toNat:Int)==43)=true:=by rw[hc];rfl
 clear hc
 go_enter func120,ntmps120
 go_wp2_with fail
 refine HP.out.mono ?_
 rintro e w1 ⟨h | h,hb⟩
 · obtain⟨a,rfl,h0,h1,h2⟩:=h
   have HX:=zh h2
   have HB:=zh hb
   clear h2 hb HP
   by_cases hbig:2147483648≤a
   · go_wp2_with fail
     go_ret2
     exact⟨.inr ⟨_,1,rfl,by unfold isI64;decide,.inl rfl⟩,HB.out⟩
   · have hsm:a≤2147483647:=by omega
     clear hbig h1
     go_wp2_with fail
     go_ret2
     exact⟨.inl ⟨_,rfl,by unfold isI64;omega,by rw[HS.out,← HX.out]⟩,HB.out⟩
 · obtain⟨a,k,rfl,⟨rfl,rfl⟩ | ⟨rfl,rfl⟩⟩:=h
   · have HB:=zh hb
     clear hb HP
     go_wp2_with fail
     go_ret2
     exact⟨.inr ⟨_,1,rfl,by unfold isI64;decide,.inl rfl⟩,HB.out⟩
   · have HB:=zh hb
     clear hb HP
     go_wp2_with fail
     go_ret2
     exact⟨.inr ⟨_,2,rfl,by unfold isI64;decide,.inr rfl⟩,HB.out⟩
theorem pi_minus (t:ByteArray) (hmax:t.size≤1048576) (w:World) (hp:0<t.size) (hc:t[0]=45):Calls prog 120 #[.string t,.int .i64 16,.int .i64 32] w fun e w'=>PiPost t e∧Below w.heap.size w w':=by
 have hemp:t.toList.isEmpty=false:=by
  rw[← decide_eq_emptyBytes]
  exact decide_eq_false (fun e=>by rw[e] at hp;cases hp)
 have hcut:IntKind.u64.wrap 2147483648=2147483648:=by rw[IntKind.wrap_u64];decide
 have hn2:∀ w:World,(binOp .neq 36 (.iface 275 (.int .i64 2)) (.iface 275 (.int .i64 1))).run prog w=.ok (.bool true) w:=fun _=>by kernel_rfl
 have hn1:∀ w:World,(binOp .neq 36 (.iface 275 (.int .i64 1)) (.iface 275 (.int .i64 1))).run prog w=.ok (.bool false) w:=fun _=>by kernel_rfl
 have HS:=zh (show sgnV t.data.toList=- hexV (t.extract 1 t.size).data.toList from by rw[(tail_of hp).1,hc];rfl)
 have HP:=zh (pu32_any (t.extract 1 t.size) (by have:=(tail_of hp).2;omega) w)
 have hc2:((t[0].toNat:Int)==43)=false:=by rw[hc];rfl
 have hc3:((t[0].toNat:Int)==45)=true:=by rw[hc];rfl
 clear hc
 go_enter func120,ntmps120
 go_wp2_with fail
 refine HP.out.mono ?_
 rintro e w1 ⟨h | h,hb⟩
 · obtain⟨a,rfl,h0,h1,h2⟩:=h
   have HX:=zh h2
   have HB:=zh hb
   clear h2 hb HP
   by_cases hbig:2147483648<a
   · go_wp2_with fail
     go_ret2
     exact⟨.inr ⟨_,1,rfl,by unfold isI64;decide,.inl rfl⟩,HB.out⟩
   · have hsm:a≤2147483648:=by omega
     clear hbig h1
     go_wp2_with fail
     go_ret2
     exact⟨.inl ⟨_,rfl,by unfold isI64;omega,by rw[HS.out,← HX.out]⟩,HB.out⟩
 · obtain⟨a,k,rfl,⟨rfl,rfl⟩ | ⟨rfl,rfl⟩⟩:=h
   · have HB:=zh hb
     clear hb HP
     go_wp2_with fail
     go_ret2
     exact⟨.inr ⟨_,1,rfl,by unfold isI64;decide,.inl rfl⟩,HB.out⟩
   · have HB:=zh hb
     clear hb HP
     go_wp2_with fail
     go_ret2
     exact⟨.inr ⟨_,2,rfl,by unfold isI64;decide,.inr rfl⟩,HB.out⟩
theorem pi_bare (t:ByteArray) (hmax:t.size≤1048576) (w:World) (hp:0<t.size) (hc:t[0]≠43) (hd:t[0]≠45):Calls prog 120 #[.string t,.int .i64 16,.int .i64 32] w fun e w'=>PiPost t e∧Below w.heap.size w w':=by
 have hemp:t.toList.isEmpty=false:=by
  rw[← decide_eq_emptyBytes]
  exact decide_eq_false (fun e=>by rw[e] at hp;cases hp)
 have hcut:IntKind.u64.wrap 2147483648=2147483648:=by rw[IntKind.wrap_u64];decide
 have hn2:∀ w:World,(binOp .neq 36 (.iface 275 (.int .i64 2)) (.iface 275 (.int .i64 1))).run prog w=.ok (.bool true) w:=fun _=>by kernel_rfl
 have hn1:∀ w:World,(binOp .neq 36 (.iface 275 (.int .i64 1)) (.iface 275 (.int .i64 1))).run prog w=.ok (.bool false) w:=fun _=>by kernel_rfl
 have HS:=zh (show sgnV t.data.toList =  hexV (t).data.toList from by rw[(tail_of hp).1];exact(if_neg hc).trans (if_neg hd))
 have HP:=zh (pu32_any (t) hmax w)
 have hc2:((t[0].toNat:Int)==43)=false:=by simp only [beq_eq_false_iff_ne,ne_eq];intro h;exact hc (UInt8.toNat_inj.1 (by show t[0].toNat=43;omega))
 have hc3:((t[0].toNat:Int)==45)=false:=by simp only [beq_eq_false_iff_ne,ne_eq];intro h;exact hd (UInt8.toNat_inj.1 (by show t[0].toNat=45;omega))
 clear hc hd
 go_enter func120,ntmps120
 go_wp2_with fail
 refine HP.out.mono ?_
 rintro e w1 ⟨h | h,hb⟩
 · obtain⟨a,rfl,h0,h1,h2⟩:=h
   have HX:=zh h2
   have HB:=zh hb
   clear h2 hb HP
   by_cases hbig:2147483648≤a
   · go_wp2_with fail
     go_ret2
     exact⟨.inr ⟨_,1,rfl,by unfold isI64;decide,.inl rfl⟩,HB.out⟩
   · have hsm:a≤2147483647:=by omega
     clear hbig h1
     go_wp2_with fail
     go_ret2
     exact⟨.inl ⟨_,rfl,by unfold isI64;omega,by rw[HS.out,← HX.out]⟩,HB.out⟩
 · obtain⟨a,k,rfl,⟨rfl,rfl⟩ | ⟨rfl,rfl⟩⟩:=h
   · have HB:=zh hb
     clear hb HP
     go_wp2_with fail
     go_ret2
     exact⟨.inr ⟨_,1,rfl,by unfold isI64;decide,.inl rfl⟩,HB.out⟩
   · have HB:=zh hb
     clear hb HP
     go_wp2_with fail
     go_ret2
     exact⟨.inr ⟨_,2,rfl,by unfold isI64;decide,.inr rfl⟩,HB.out⟩
theorem pi_none (w:World):Calls prog 120 #[.string ⟨#[]⟩,.int .i64 16,.int .i64 32] w fun e w'=>PiPost ⟨#[]⟩ e∧Below w.heap.size w w':=by
 go_enter func120,ntmps120
 go_wp2_with fail
 go_ret2
 exact⟨.inr ⟨0,2,rfl,by unfold isI64;decide,.inr rfl⟩,zr⟩
theorem pi_any (t:ByteArray) (hmax:t.size≤1048576) (w:World):Calls prog 120 #[.string t,.int .i64 16,.int .i64 32] w fun e w'=>PiPost t e∧Below w.heap.size w w':=by
 by_cases h:t.size=0
 · obtain⟨⟨l⟩⟩:=t
   obtain rfl:l=[]:=by cases l<;>simp_all [ByteArray.size]
   exact pi_none w
 · have hp:0<t.size:=by omega
   by_cases h1:t[0]=43
   · exact pi_plus t hmax w hp h1
   · by_cases h2:t[0]=45
     · exact pi_minus t hmax w hp h2
     · exact pi_bare t hmax w hp h1 h2
theorem ParseInt_any (t:ByteArray) (hmax:t.size≤1048576) (w:World) (hg:GErrs w):Calls prog 92 #[.string t,.int .i64 16,.int .i64 32] w fun e w'=>NumPost .i64 (fun a=>a=sgnV t.data.toList) e∧Below w.heap.size w w':=by
 have HG:=zh hg
 clear hg
 go_enter func92,ntmps92
 go_wp2_with fail
 refine(pi_any t hmax w).mono ?_
 rintro e w1 ⟨h | h,hb⟩
 · obtain⟨a,rfl,h1,h2⟩:=h
   have HX:=zh (And.intro h1 h2)
   clear h1 h2
   go_wp2_with fail
   go_ret2
   exact⟨.inl ⟨a,rfl,HX.out.1,HX.out.2⟩,hb⟩
 · obtain⟨a,k,rfl,h1,hk⟩:=h
   have HB:=zh hb
   have HI:=zh h1
   have HT:=zh (toErr_any ⟨#[80,97,114,115,101,73,110,116]⟩ t 16 32 k w1 hmax hk (HG.out.later hb))
   clear hk hb h1
   go_wp2_with fail
   refine HT.out.mono ?_
   rintro e w2 ⟨T,V,rfl,hb2⟩
   go_wp2_with fail
   go_ret2
   exact⟨.inr ⟨a,T,V,rfl,HI.out⟩,HB.out.trans (hb2.mono HB.out.size)⟩
end Lo
namespace Sc
open Go.ChangeShapes Go.WideShapes Go.ChangeAt Go.RowKit Go.Deep
open We (Co)
theorem wAllF {H:Type} {P:Program} {e:TypeId} {ds:List (DataW H)} {d:DataW H} (hd:d∈ds):∀ n∈d.weights P e,n∈DataW.weightsAll P e ds:=by
 induction ds with
 | nil=>cases hd
 | cons a r ih =>
  intro n hn
  rw[DataW.weightsAll,List.mem_append]
  rcases List.mem_cons.1 hd with h | h
  · exact .inl (h▸hn)
  · exact .inr (ih h n hn)
theorem i64_of_wf {k:Int} (h:(Lit.int .i64 k).wf=true):D.isI64 k:=by
 simp only [Lit.wf,IntKind.min,IntKind.max,IntKind.signed,IntKind.bits,Bool.and_eq_true,decide_eq_true_eq,if_true] at h
 unfold D.isI64
 omega
def FListOpens (H:Type) (enc:TypeId×Value→H) (w:World) (base:Nat) (sp:Nat→Bool) (held:Bool) (fuel:Nat):Prop :=
 ∀ (v:Value) (x:DataW H×List MemPlace),DataW.trod enc prog w base sp held fuel 24 [v]=some x→(∀ n∈x.1.weights prog 24,n≤reachBytes)→∃ l,FI w 0 w.heap.size l v∧l.length≤reachBytes
theorem num_trod {H:Type} {enc:TypeId×Value→H} {w:World} {base:Nat} {sp:Nat→Bool} {held:Bool} {fuel:Nat} {a b:Value} {x:DataW H×List MemPlace}
 (h:DataW.trod enc prog w base sp held fuel 54 [a,b]=some x) (hw:∀ n∈x.1.weights prog 54,n≤reachBytes):∃ (neg:Bool) (m:ByteArray),a=.bool neg∧b=.string m∧m.size≤140737488351232:=by
 have e4:prog.cellsOf 4=1:=by kernel_rfl
 have e9:prog.cellsOf 9=1:=by kernel_rfl
 obtain⟨z0,z1,m,hz,_,g0,g1⟩:=trod_struct2 underlying54 h
 obtain⟨neg,hng,_⟩:=DataW.trod_bool underlying4 g0
 obtain⟨mag,hmg,hmz,_⟩:=DataW.trod_string underlying9 g1
 rw[e4] at hng
 rw[e9] at hmg
 refine⟨neg,mag,by simpa using hng,by simpa using hmg,?_⟩
 have hms:mag.size≤reachBytes:=by
  refine hw _ ?_
  rw[hz]
  simp[DataW.weights,underlying54,DataW.weightsEach,hmz]
 have hr:reachBytes=140737488351232:=by decide
 rwa [hr] at hms
theorem collate_trod {H:Type} {enc:TypeId×Value→H} {w:World} {base:Nat} {sp:Nat→Bool} {held:Bool} {fuel:Nat} {a b c:Value} {x:DataW H×List MemPlace}
 (h:DataW.trod enc prog w base sp held fuel 77 [a,b,c]=some x):∃ (k:Int) (p q:Bool),a=.int .i64 k∧b=.bool p∧c=.bool q∧D.isI64 k:=by
 have e3:prog.cellsOf 3=1:=by kernel_rfl
 have e4:prog.cellsOf 4=1:=by kernel_rfl
 obtain⟨ys,n,hn,rfl,hcl,hyl,hf⟩:=DataW.trod_struct underlying77 h
 match ys,hyl with
 | [y0,y1,y2],_ =>
  have h0:=hf 0 _ rfl
  have h1:=hf 1 _ rfl
  have h2:=hf 2 _ rfl
  simp[e3,e4] at h0 h1 h2
  obtain⟨k,hk,_,hkw⟩:=DataW.trod_int underlying3 h0
  obtain⟨p,hp,_⟩:=DataW.trod_bool underlying4 h1
  obtain⟨q,hq,_⟩:=DataW.trod_bool underlying4 h2
  exact⟨k,p,q,by simpa using hk,by simpa using hp,by simpa using hq,i64_of_wf hkw⟩
theorem field_trod {H:Type} {enc:TypeId×Value→H} {w:World} {base:Nat} {sp:Nat→Bool} {held:Bool} {fuel:Nat} {cs:List Value} {x:DataW H×List MemPlace}
 (ih:∀ m,m<fuel→FListOpens H enc w base sp held m) (h:DataW.trod enc prog w base sp held fuel 79 cs=some x) (hw:∀ n∈x.1.weights prog 79,n≤reachBytes) :
 ∃ (f:Fd) (u:Value),cs=fcells f u∧FFit f∧FI w 0 w.heap.size f.fields u:=by
 obtain⟨ys,n,hn,rfl,hcl,hyl,hf⟩:=DataW.trod_struct underlying79 h
 have e14:prog.cellsOf 79=14:=by kernel_rfl
 rw[e14] at hcl
 match cs,hcl with
 | [v0,v1,v2,v3,v4,v5,v6,v7,v8,v9,v10,v11,v12,v13],_ =>
  match ys,hyl with
  | [y0,y1,y2,y3,y4,y5,y6,y7,y8,y9],_ =>
   have e22:prog.cellsOf 52=1:=by kernel_rfl
   have eNu:prog.cellsOf 75=1:=by kernel_rfl
   have e3:prog.cellsOf 3=1:=by kernel_rfl
   have e4:prog.cellsOf 4=1:=by kernel_rfl
   have e24:prog.cellsOf 54=2:=by kernel_rfl
   have eCo:prog.cellsOf 77=3:=by kernel_rfl
   have e9:prog.cellsOf 9=1:=by kernel_rfl
   have eFs:prog.cellsOf 24=1:=by kernel_rfl
   have h0:=hf 0 _ rfl
   have h1:=hf 1 _ rfl
   have h2:=hf 2 _ rfl
   have h3:=hf 3 _ rfl
   have h4:=hf 4 _ rfl
   have h5:=hf 5 _ rfl
   have h6:=hf 6 _ rfl
   have h7:=hf 7 _ rfl
   have h8:=hf 8 _ rfl
   have h9:=hf 9 _ rfl
   simp[e22,eNu,e3,e4,e24,eCo,e9,eFs] at h0 h1 h2 h3 h4 h5 h6 h7 h8 h9
   have hw':∀ n∈DataW.weightsEach prog [9,52,4,75,4,54,54,3,77,24] [y0.1,y1.1,y2.1,y3.1,y4.1,y5.1,y6.1,y7.1,y8.1,y9.1],n≤reachBytes:=by
    simpa[DataW.weights,underlying79] using hw
   have q0:∀ n∈y0.1.weights prog 9,n≤reachBytes:=fun n hn=>hw' n (DataW.weights_mem_each (j:=0) rfl rfl n hn)
   have q5:∀ n∈y5.1.weights prog 54,n≤reachBytes:=fun n hn=>hw' n (DataW.weights_mem_each (j:=5) rfl rfl n hn)
   have q6:∀ n∈y6.1.weights prog 54,n≤reachBytes:=fun n hn=>hw' n (DataW.weights_mem_each (j:=6) rfl rfl n hn)
   have q9:∀ n∈y9.1.weights prog 24,n≤reachBytes:=fun n hn=>hw' n (DataW.weights_mem_each (j:=9) rfl rfl n hn)
   obtain⟨nm,hnm,hnz,_⟩:=DataW.trod_string underlying9 h0
   obtain⟨k,hk,_,hkw⟩:=DataW.trod_int underlying52 h1
   obtain⟨dn,hdn,_⟩:=DataW.trod_bool underlying4 h2
   obtain⟨nu,hnu,_,hnuw⟩:=DataW.trod_int underlying75 h3
   obtain⟨bd,hbd,_⟩:=DataW.trod_bool underlying4 h4
   obtain⟨lob,lom,rfl,rfl,hlm⟩:=num_trod h5 q5
   obtain⟨hib,him,rfl,rfl,hhm⟩:=num_trod h6 q6
   obtain⟨mo,hmo,_,hmow⟩:=DataW.trod_int underlying3 h7
   obtain⟨st,sh,bk,rfl,rfl,rfl,hst⟩:=collate_trod h8
   obtain rfl:v0=.string nm:=by simpa using hnm
   obtain rfl:v1=.int .u8 k:=by simpa using hk
   obtain rfl:v2=.bool dn:=by simpa using hdn
   obtain rfl:v3=.int .u8 nu:=by simpa using hnu
   obtain rfl:v4=.bool bd:=by simpa using hbd
   obtain rfl:v9=.int .i64 mo:=by simpa using hmo
   have hkb:0≤k∧k≤255:=by
    simp only [Lit.wf,Bool.and_eq_true,decide_eq_true_eq] at hkw
    exact hkw
   have hnb:0≤nu∧nu≤255:=by
    simp only [Lit.wf,Bool.and_eq_true,decide_eq_true_eq] at hnuw
    exact hnuw
   obtain⟨l,hl,hll⟩:=ih n (by omega) v13 y9 h9 q9
   have hns:nm.size≤reachBytes:=by
    refine q0 _ ?_
    rw[hnz]
    simp[DataW.weights]
   have hr:reachBytes=140737488351232:=by decide
   rw[hr] at hns hll
   refine⟨.mk nm k.toNat dn nu.toNat bd lob lom hib him mo ⟨st,sh,bk⟩ l,v13,?_,⟨hns,?_,?_,hlm,hhm,i64_of_wf hmow,hst,hll⟩,hl⟩
   · show [_,Value.int .u8 k,_,Value.int .u8 nu,_,_,_,_,_,_,_,_,_,_]=[_,Value.int .u8 (k.toNat:Int),_,Value.int .u8 (nu.toNat:Int),_,_,_,_,_,_,_,_,_,_]
     rw[Int.toNat_of_nonneg hkb.1,Int.toNat_of_nonneg hnb.1]
     rfl
   · show k.toNat<256
     omega
   · show nu.toNat<256
     omega
theorem flist_trod {H:Type} {enc:TypeId×Value→H} {w:World} {base:Nat} {sp:Nat→Bool} {held:Bool} (fuel:Nat):FListOpens H enc w base sp held fuel:=by
 induction fuel using Nat.strongRecOn with
 | _ fuel ih =>
 intro v x h hw
 rcases DataW.trod_slice underlying24 h with ⟨hc,rfl⟩ | ⟨a,len,cap,elems,rest,n,rfl,hc,rfl,_,hlc,_,hel,hall,_⟩
 · obtain rfl:v=.slice none 0 0:=by simpa using hc
   exact⟨[],FI.nil _ _ _,Nat.zero_le _⟩
 obtain rfl:v=.slice (some a) len cap:=by simpa using hc
 have e27:prog.cellsOf 79=14:=by kernel_rfl
 have b27:1≤prog.bytesOf 79:=by decide +kernel
 rw[e27] at hall
 have hw':(elems.length+rest.length)*prog.bytesOf 79≤reachBytes∧∀ n∈DataW.weightsAll prog 79 (elems.map (·.1)),n≤reachBytes:=by
  simp only [DataW.weights,underlying24,List.length_map,List.mem_cons,List.mem_append] at hw
  exact⟨hw _ (.inl rfl),fun n hn=>hw n (.inr (.inl hn))⟩
 have hlen:len≤reachBytes:=by
  have h1:(elems.length+rest.length)*1≤(elems.length+rest.length)*prog.bytesOf 79:=Nat.mul_le_mul_left _ b27
  omega
 obtain⟨b,off,spot⟩:=a
 by_cases h0:len=0
 · subst h0
   exact⟨[],FI.mk [] (some ⟨b,off,spot⟩) cap (fun _=>.nilIface) (Nat.zero_le _) (fun j hj=>by cases hj) (fun j hj=>by cases hj) (fun j hj=>by cases hj),Nat.zero_le _⟩
 obtain rfl:spot=none:=by
  have h1:=hall 0 (by omega)
  rw[List.getElem?_eq_getElem (by omega)] at h1
  obtain⟨cs,h2,h3⟩:=Option.bind_eq_some_iff.1 h1
  obtain⟨_,hcl,hat⟩:=World.cells?_some h2
  have:=hat 0 (by decide)
  rw[List.getElem?_eq_getElem (by omega)] at this
  simpa[Addr.add] using World.cell?_spot this
 have hadd:∀ o k,(⟨b,o,none⟩:Addr).add k=⟨b,o+k,none⟩:=fun o k=>by
  simp only [Addr.add]
  split<;>simp_all
 have key:∀ j,j<len→b<w.heap.size∧∃ (f:Fd) (u:Value),FCells w b (off+j*14) f u∧FFit f∧FI w 0 w.heap.size f.fields u:=fun j hj=>by
  have h1:=hall j hj
  rw[List.getElem?_eq_getElem (by omega)] at h1
  obtain⟨cs,h2,h3⟩:=Option.bind_eq_some_iff.1 h1
  obtain⟨f,u,rfl,hf,hp⟩:=field_trod (fun m hm=>ih m (by omega)) h3 (fun m hm=>hw'.2 m (wAllF (List.mem_map.2 ⟨_,List.getElem_mem _,rfl⟩) m hm))
  obtain⟨_,_,hat⟩:=World.cells?_some h2
  have at_:FCells w b (off+j*14) f u:=fun i hi=>by
   have:=hat i hi
   rw[hadd,hadd] at this
   rw[this]
   exact List.getElem?_eq_getElem hi
  exact⟨World.block_lt_of_cell? w _ (at_ 0 (by decide)),f,u,at_,hf,hp⟩
 let G:Nat→Fd:=fun j=>if hj:j<len then (key j hj).2.choose else .mk .empty 0 false 0 false false .empty false .empty 0 ⟨0,false,false⟩ []
 let F:Nat→Value:=fun j=>if hj:j<len then (key j hj).2.choose_spec.choose else .nilIface
 have hG:∀ j,j<len→FCells w b (off+j*14) (G j) (F j)∧FFit (G j)∧FI w 0 w.heap.size (G j).fields (F j):=fun j hj=>by
  simp only [G,F,hj,dif_pos]
  exact(key j hj).2.choose_spec.choose_spec
 have hl:((List.range len).map G).length=len:=by simp
 have hg:∀ j (h:j<((List.range len).map G).length),((List.range len).map G)[j]=G j:=fun j h=>by simp
 refine⟨(List.range len).map G,?_,by rw[hl];exact hlen⟩
 have:=FI.mk (w:=w) (lo:=0) (hi:=w.heap.size) ((List.range len).map G) (some ⟨b,off,none⟩) cap F (by rw[hl];exact hlc)
  (fun j h=>⟨b,off,rfl,Nat.zero_le _,(key j (by omega)).1,by rw[hg];exact(hG j (by omega)).1⟩) (fun j h=>by rw[hg];exact(hG j (by omega)).2.1) (fun j h=>by rw[hg];exact(hG j (by omega)).2.2)
 rw[hl] at this
 exact this
