/- canon.roots. -/
import Derived.Test.YtklkgicjfnbndaaGreatZScriptDoes33
import Derived.Test.YtklkgicjfnbndaaGreatZScriptDoes21
import Derived.Test.YtklkgicjfnbndaaGreatZScriptDoes34
import Derived.Test.YtklkgicjfnbndaaGreatZScriptDoes25
import Derived.Test.YtklkgicjfnbndaaGreatZScriptDoes26
import Derived.Test.YtklkgicjfnbndaaGreatZScriptDoes27
import Derived.Test.YtklkgicjfnbndaaGreatZScriptDoes30
import Derived.BigQuiet
namespace Go.Proofs.YtklkgicjfnbndaaGreat
section
open Go.RowKit
set_option linter.unusedVariables false
def RetOwnR (R:Reg) (w:World) (xs:List Int) (e:Ending) (w':World):Prop:=∃ v R',e=.returned v∧Ev R w R' w'∧OwnI R' w.heap.size 3 w' v xs
theorem OwnI.lit {R:Reg} {W:World} {B:Nat} (hI:Inv R W) (hB:B≤W.heap.size) (y:Int):OwnI R B 3 (W.alloc (.cells #[.int .i64 y] 3)) (.slice (some ⟨W.heap.size,0,none⟩) 1 1) [y]:=by
 have h:=World.ownsRow_lit (base:=B) (e:=3) (size:=1) W #[.int .i64 y] 1 hB (by simp[maxLen]) rfl
 refine⟨by simpa using h,fun k hk=>?_⟩
 simp only[Value.ownBlock,Option.some.injEq] at hk
 rw[←hk]
 exact hI.none_of_ge (Nat.le_refl _)
theorem roots_none (R:Reg) (w:World) (hI:Inv R w) (p:Value) (s:List Nat) (root lone:Int) (hp:MapAt R p s root lone) (h0:s.length=0):
  Calls Tryz.prog 137 #[p] w fun e w'=>e=.returned (.slice none 0 0)∧w=w':=by
 have hd:=darts_any R w hI p s root lone hp
 rw[h0] at hd
 have HD:=Lib.hid hd
 clear hd hI hp
 go_enter Tryz.func137,Tryz.ntmps137
 go_wp2_with fail
 refine HD.out.mono ?_
 rintro e w' ⟨rfl,rfl⟩
 go_wp2_with fail
 go_ret
 exact⟨rfl,rfl⟩
set_option maxRecDepth 100000 in
set_option maxHeartbeats 2000000 in
theorem roots_some (R:Reg) (w:World) (hI:Inv R w) (p:Value) (s:List Nat) (root lone:Nat) (hp:MapAt R p s (root:Int) lone) (hr:root<s.length):
  Calls Tryz.prog 137 #[p] w (RetOwnR R w (toI (rootsL s root))):=by
 obtain⟨hs,hok⟩:=hp.ok hI
 have he2:s.length % 2=0:=hok.1
 have hn:s.length≤131073:=hok.2.1
 have hlone:lone≤65536:=by have:=hok.2.2;omega
 have hpn:=partsN_le hs he2
 have HD:=Lib.hid (darts_any R w hI p s root lone hp)
 have HNm:=Lib.hid (enames_any R w hI p s root lone hp)
 have HRt:=Lib.hid (fun R' w' (he:Ev R w R' w')=>root_any R' w' he.inv p s root lone (he.map hp))
 have HP:=Lib.hid (fun R' w' (he:Ev R w R' w')=>eparts_any R' w' he.inv p s root lone (he.map hp))
 have hpl:=partsL_length hs he2
 have hall:=rootsP_all hs he2 hr lone
 have hcl:partsN s+lone≤300000:=by omega
 have hpr:Hid (∀ i,(partsF s i).root=if i<partsN s then ((rootOf (partsL s) (i:Int):Nat):Int) else -1):=Lib.hid (fun i=>by
  unfold partsF
  split <;> rfl)
 have hsuc:=Lib.hid (rootsP_succ s (nth (partsL s) root))
 have hz:=rootsP_succ s (nth (partsL s) root)
 have hle:Hid (∀ i,(rootsP s (nth (partsL s) root) i).length≤i):=Lib.hid (fun i=>by
  unfold rootsP
  rw[List.length_map]
  have:=List.length_filter_le (fun (k:Nat)=>decide ((k:Int)≠nth (partsL s) root∧k<partsN s)) (List.range i)
  rwa [List.length_range] at this)
 have hr0:Hid (rootsP s (nth (partsL s) root) 0=[]):=Lib.hid rfl
 have HA:=Lib.hid (show rootsL s root=root :: rootsP s (nth (partsL s) root) (partsN s+lone) by rw[hall];rfl)
 obtain⟨n,hln⟩:∃ n,s.length=n:=⟨_,rfl⟩
 rw[hln] at HD hr hpl
 obtain⟨C,hC⟩:∃ C,partsN s+lone=C:=⟨_,rfl⟩
 rw[hC] at HP HA hcl
 obtain⟨f,hf⟩:∃ f,nth (partsL s) root=f:=⟨_,rfl⟩
 rw[hf] at hsuc hle hr0 HA
 have hnb:((n:Int) == 0)=false:=by simp;omega
 have HPl:=Lib.hid hpl
 have HF:=Lib.hid hf
 clear hI hp hs hok hpl hall hz hln hC hf he2 hn hlone hpn
 go_enter Tryz.func137,Tryz.ntmps137
 go_wp2_with fail
 refine HD.out.mono ?_
 rintro e w' ⟨rfl,rfl⟩
 go_wp2_with fail
 refine HNm.out.mono ?_
 rintro e w1 ⟨v1,rfl,he1,ho1⟩
 obtain⟨a1,c1,rfl,_⟩:=ho1.ints.open
 rw[HPl.out] at ho1 ⊢
 obtain⟨g1,rfl,_,_,k0,_⟩:=ho1.headAt HPl.out hr
 rw[HF.out] at k0
 have HE1:=Lib.hid he1
 clear he1 ho1 HNm
 go_wp2_with fail
 refine (HRt.out _ _ HE1.out).mono ?_
 rintro e w' ⟨rfl,rfl⟩
 go_wp2_with fail
 refine (HRt.out _ _ HE1.out).mono ?_
 rintro e w' ⟨rfl,rfl⟩
 have HE2:=Lib.hid (HE1.out.alloc (.cells #[.int .i64 (root:Int)] 3))
 have HO2:=Lib.hid (OwnI.lit (B:=w.heap.size) HE1.out.inv HE1.out.size (root:Int))
 clear k0
 go_wp2_with fail
 refine (HP.out _ _ HE2.out).mono ?_
 rintro e w3 ⟨v3,R3,rfl,he3,a3,c3,rfl,ho3⟩
 have HE3:=Lib.hid (HE2.out.trans he3)
 have HO3:=Lib.hid ho3
 have HO2:=Lib.hid (HO2.out.ev he3)
 clear he3 ho3
 go_wp2_with fail
 go_loopg [5,24] C (fun gg v5 v24 wr=>∃ (i:Nat) (a:Option Addr) (l c:Nat),i≤C∧C-i≤gg∧v24=.int .i64 (i:Int)∧v5=.slice a l c∧l=(rootsP s f i).length+1∧Ev R w R3 wr∧OwnI R3 w.heap.size 3 wr (.slice a l c) (toI (root :: rootsP s f i))∧OwnV R3 (w1.alloc (.cells #[.int .i64 (root:Int)] 3)).heap.size 106 5 wr (.slice a3 C c3) C (flatF (partsF s) C)∧∀ k,(Value.slice a l c).ownBlock=some k→(Value.slice a3 C c3).ownBlock≠some k)
 case atStart=>
  refine⟨0,_,1,1,by omega,by omega,rfl,rfl,by rw[hr0.out];rfl,HE3.out,by rw[hr0.out];exact HO2.out,HO3.out,fun k hk h=>?_⟩
  have h1:=(HO3.out.lt k h).1
  simp[Value.ownBlock] at hk h1
  omega
 case round=>
  obtain⟨i,a,l,c,hi,hg,rfl,rfl,hl,hev,ho,hv,hd⟩:=hrel
  have HEv:=Lib.hid hev
  have HO:=Lib.hid ho
  have HV:=Lib.hid hv
  have HDs:=Lib.hid hd
  have HL:=Lib.hid hl
  clear hev ho hv hd hl
  by_cases hil:i<C
  ·have hfr:=hpr.out i
   have hsu:=hsuc.out i
   have hlb:=hle.out i
   obtain⟨gb,e1,_,_,d0,_⟩:=HV.out.headAt (i:=i*5) (by rw[flatF_length];omega)
   subst e1
   obtain⟨_,e1,_,_,d1,_⟩:=HV.out.headAt (i:=i*5+1) (by rw[flatF_length];omega)
   cases e1
   obtain⟨_,e1,_,_,d2,_⟩:=HV.out.headAt (i:=i*5+2) (by rw[flatF_length];omega)
   cases e1
   obtain⟨_,e1,_,_,d3,_⟩:=HV.out.headAt (i:=i*5+3) (by rw[flatF_length];omega)
   cases e1
   obtain⟨_,e1,_,_,d4,_⟩:=HV.out.headAt (i:=i*5+4) (by rw[flatF_length];omega)
   cases e1
   have dd0:=d0.trans (flatF_get (f:=partsF s) (k:=i) (c:=0) (by omega) hil)
   clear d0
   rw[flatF_get (by omega) hil] at d1 d2 d3 d4
   obtain⟨P,hP⟩:∃ P,partsF s i=P:=⟨_,rfl⟩
   rw[hP] at dd0 d1 d2 d3 d4 hfr
   obtain⟨pr,pv,pe,pb,pg⟩:=P
   have k0:wr.cell? ⟨gb,i*5,none⟩=some (.int .i64 pr):=dd0
   have k1:wr.cell? ⟨gb,i*5+1,none⟩=some (.int .i64 pv):=d1
   have k2:wr.cell? ⟨gb,i*5+2,none⟩=some (.int .i64 pe):=d2
   have k3:wr.cell? ⟨gb,i*5+3,none⟩=some (.int .i64 pb):=d3
   have k4:wr.cell? ⟨gb,i*5+4,none⟩=some (.int .i64 pg):=d4
   have hfq:pr=if i<partsN s then ((rootOf (partsL s) (i:Int):Nat):Int) else -1:=hfr
   clear hfr dd0 d1 d2 d3 d4 hP
   have HEa:=Lib.hid (HEv.out.alloc (.cells #[.int .i64 pr,.int .i64 pv,.int .i64 pe,.int .i64 pb,.int .i64 pg] 106))
   have HOa:=Lib.hid (HO.out.alloc (.cells #[.int .i64 pr,.int .i64 pv,.int .i64 pe,.int .i64 pb,.int .i64 pg] 106))
   have HVa:=Lib.hid (HV.out.alloc (.cells #[.int .i64 pr,.int .i64 pv,.int .i64 pe,.int .i64 pb,.int .i64 pg] 106))
   by_cases hif:(i:Int)=f
   ·have hb1:((i:Int) != f)=false:=by simp[hif]
    rw[if_neg (fun k=>k.1 hif)] at hsu
    have HSu:=Lib.hid hsu
    clear hsu hif hfq
    go_wp2_with fail
    go_roundg (C-(i+1))
    case measure=>omega
    case rel=>exact⟨i+1,a,l,c,by omega,by omega,by go_num,rfl,by rw[HSu.out];exact HL.out,HEa.out,by rw[HSu.out];exact HOa.out,HVa.out,HDs.out⟩
   ·have hb1:((i:Int) != f)=true:=by simp[hif]
    by_cases hip:i<partsN s
    ·rw[if_pos hip] at hfq
     rw[if_pos ⟨hif,hip⟩] at hsu
     obtain⟨q,hq⟩:∃ q,rootOf (partsL s) (i:Int)=q:=⟨_,rfl⟩
     rw[hq] at hfq hsu
     subst hfq
     have HSu:=Lib.hid hsu
     have hb2:decide ((0:Int)≤(q:Int))=true:=by simp
     clear hsu hif hq hip
     have HEb:=Lib.hid (HEa.out.alloc (.cells #[.int .i64 (q:Int)] 3))
     have HOb:=Lib.hid (HOa.out.alloc (.cells #[.int .i64 (q:Int)] 3))
     have HVb:=Lib.hid (HVa.out.alloc (.cells #[.int .i64 (q:Int)] 3))
     have hLl:Hid ((toI (root :: rootsP s f i)).length=l):=Lib.hid (by rw[toI_length,List.length_cons,HL.out])
     go_wp2_with (at_builtin;refine wpList_app_int (R:=R3) (B:=w.heap.size) rfl _ _ rfl HOb.out rfl ⟨wr.heap.size+1,0,none⟩ 1 (q:Int) ?a0 ?a1 ?a2 ?a3 ?a4 ?_)
     case a0=>first|rfl|simp
     case a1=>first|rfl|simp
     case a2=>have:=hLl.out;have:=HL.out;omega
     case a3=>have:=HEb.out.size;first|exact this|(simp at this ⊢;omega)
     case a4=>exact fun q hq=>HEb.out.inv.none_of_ge (by first|exact hq|(simp at hq ⊢;omega))
     intro v8 w8 ho8 hg8 hs8
     obtain⟨a8,c8,rfl,_⟩:=ho8.ints.open
     have hl8:(toI (root :: rootsP s f i) ++ [(q:Int)]).length=l+1:=by rw[List.length_append,hLl.out];rfl
     have hx8:toI (root :: rootsP s f i) ++ [(q:Int)]=toI (root :: rootsP s f (i+1)):=by rw[HSu.out];simp[toI]
     rw[hl8] at ho8 hs8 ⊢
     rw[hx8] at ho8
     have HE8:=Lib.hid (HEb.out.app HOb.out (Nat.le_refl _) hg8)
     have HO8:=Lib.hid ho8
     have HV8:=Lib.hid (HVb.out.kept hg8 (dis_neI (u:=.slice a l c) HDs.out))
     have HD8:Hid (∀ k,(Value.slice a8 (l+1) c8).ownBlock=some k→(Value.slice (some ⟨gb,0,none⟩) C c3).ownBlock≠some k):=Lib.hid fun k hk h=>by
      rcases hs8 k hk with h1|h1
      ·exact HDs.out k h1 h
      ·have h2:=(HVb.out.lt k h).2
       simp at h1 h2
       omega
     clear ho8 hg8 hs8 hl8 hx8
     go_wp2_with fail
     go_roundg (C-(i+1))
     case measure=>omega
     case rel=>exact⟨i+1,a8,l+1,c8,by omega,by omega,by go_num,rfl,by rw[HSu.out,List.length_append,List.length_singleton,HL.out],HE8.out,HO8.out,HV8.out,HD8.out⟩
    ·rw[if_neg hip] at hfq
     rw[if_neg (fun k=>hip k.2)] at hsu
     subst hfq
     have HSu:=Lib.hid hsu
     have hb2:decide ((0:Int)≤-1)=false:=by decide
     clear hsu hif hip
     go_wp2_with fail
     go_roundg (C-(i+1))
     case measure=>omega
     case rel=>exact⟨i+1,a,l,c,by omega,by omega,by go_num,rfl,by rw[HSu.out];exact HL.out,HEa.out,by rw[HSu.out];exact HOa.out,HVa.out,HDs.out⟩
  ·obtain rfl:i=C:=by omega
   go_wp2_with fail
   go_ret
   exact⟨_,R3,rfl,HEv.out,by rw[HA.out];exact HO.out⟩
end
section
open Go.RowKit
set_option linter.unusedVariables false
end
section
open Go.RowKit
set_option linter.unusedVariables false
set_option maxRecDepth 100000 in
set_option maxHeartbeats 4000000 in
theorem relabel_yes (R:Reg) (w:World) (hI:Inv R w) (p q:Value) (s t:List Nat) (root lone:Int) (hp:MapAt R p s root lone) (hq:PermAt R q t) (ht:IsPerm t) (hl:t.length=s.length) (hm:Mates t):
  Calls Tryz.prog 139 #[p,q] w (NewYes R w (relL s t) (atI t root) lone):=by
 obtain⟨hS,hok⟩:=hp.ok hI
 have hn0:=hok.2.1
 have hev:=hok.1
 have HDt:=Lib.hid (fun R' w' (he:Ev R w R' w')=>darts_any R' w' he.inv p s root lone (he.map hp))
 have HRt:=Lib.hid (fun R' w' (he:Ev R w R' w')=>root_any R' w' he.inv p s root lone (he.map hp))
 have HLn:=Lib.hid (fun R' w' (he:Ev R w R' w')=>lone_any R' w' he.inv p s root lone (he.map hp))
 have HSg:=Lib.hid (fun R' w' (he:Ev R w R' w') (d:Nat) (hd:d<s.length)=>(by
  have:=sigma_any R' w' he.inv p s root lone (he.map hp) (d:Int)
  rw[atI_in hd] at this
  exact this:Calls Tryz.prog 58 #[p,.int .i64 (d:Int)] w' _))
 have HQl:=Lib.hid (fun R' w' (he:Ev R w R' w')=>len_any R' w' he.inv q t (he.perm hq))
 have HQr:=Lib.hid (fun R' w' (he:Ev R w R' w')=>at_any R' w' he.inv q t (he.perm hq) root)
 have HQa:=Lib.hid (fun R' w' (he:Ev R w R' w') (d:Nat) (hd:d<s.length)=>(by
  have:=at_any R' w' he.inv q t (he.perm hq) (d:Int)
  rw[atI_in (by rw[hl];exact hd)] at this
  exact this:Calls Tryz.prog 91 #[q,.int .i64 (d:Int)] w' _))
 have HMt:=Lib.hid hm
 have HAl:=Lib.hid (relGo_all ht hl)
 have HSt:=Lib.hid (fun i (hi:i<s.length)=>relGo_set ht hl hi)
 have HSl:=Lib.hid (fun i (hi:i<s.length)=>hS.lt hi)
 have HTl:=Lib.hid (fun i (hi:i<s.length)=>(by have:=ht.lt (i:=i) (by rw[hl];exact hi);omega:at' t i<s.length))
 have HNy:=Lib.hid (fun R' w' (hI':Inv R' w') v (hv:FreeI R' w' v (toI (relL s t)))=>new_yes R' w' hI' v (relL s t) hv (atI t root) lone (relL_perm hS ht hl) (relRoot hok ht hl))
 have HRl:=Lib.hid (fun i=>relGo_length s t i)
 have HRz:=Lib.hid (relGo_zero s t)
 have HI:=Lib.hid hI
 obtain⟨b,rfl,_⟩:=hp
 obtain⟨c,rfl,_⟩:=hq
 obtain⟨n,hln⟩:∃ n,s.length=n:=⟨_,rfl⟩
 have HTn:=Lib.hid (hl.trans hln)
 rw[hl] at HQl
 rw[hln] at HDt HSg HQl HQa HAl HSt HSl HTl HRl HRz hn0 hev
 obtain⟨i0,hi,hz0,hz1,hz2⟩:=info_parts int_info
 have hbn:((n:Int) != (n:Int))=false:=by simp
 clear hI hS hok ht hl hm hln
 go_enter Tryz.func139,Tryz.ntmps139
 go_wp2_with fail
 refine (HQl.out _ _ (Ev.refl HI.out)).mono ?_
 rintro e w' ⟨rfl,rfl⟩
 go_wp2_with fail
 refine (HDt.out _ _ (Ev.refl HI.out)).mono ?_
 rintro e w' ⟨rfl,rfl⟩
 go_wp2_with (first|(go_at_call 18;refine (HDt.out _ _ (Ev.refl HI.out)).mono ?_;rintro e w' ⟨rfl,rfl⟩)|(refine wpList_make_full _ rfl _ _ 25 rfl w.heap.size 3 i0 (.int .i64 0) 1 Tryz.underlying25 hi hz0 hz1 .i64 .i64 (n:Int) (n:Int) n rfl rfl rfl rfl ?q1 ?q2 (Nat.le_refl _) ?_))
 case q1=>rw[hz2];omega
 case q2=>unfold maxLen;omega
 intro w1 ho1 hg1
 have hown:OwnI R w.heap.size 3 w1 (.slice (some ⟨w.heap.size,0,none⟩) n n) (relGo s t 0):=by rw[HRz.out];exact OwnI.made HI.out ho1
 have he1:Ev R w R w1:=(Ev.refl HI.out).grown hg1 (by simp)
 have HO1:=Lib.hid hown
 have HE1:=Lib.hid he1
 clear ho1 hg1 hown he1
 go_wp2_with fail
 obtain⟨g6,hg6⟩:∃ g,w.heap.size=g:=⟨_,rfl⟩
 rw[hg6] at HO1 ⊢
 have HG6:=Lib.hid hg6
 go_loopg [26] n (fun g v26 wr=>∃ (i:Nat),i≤n∧n-i≤g∧v26=.int .i64 (i:Int)∧Ev R w R wr∧OwnI R g6 3 wr (.slice (some ⟨g6,0,none⟩) n n) (relGo s t i)∧∀ d,d<i→at' t (d ^^^ 1)=at' t d ^^^ 1)
 case atStart=>exact⟨0,Nat.zero_le _,by omega,rfl,HE1.out,HO1.out,fun d hd=>by omega⟩
 case round=>
  obtain⟨i,hin,hg,rfl,he,ho,hall⟩:=hrel
  have HE:=Lib.hid he
  have HO:=Lib.hid ho
  have HAa:=Lib.hid hall
  clear he ho hall
  by_cases hil:i<n
  ·have hx1:=xor_one_lt hev hil
   have hxor:bits .xor .i64 (i:Int) 1=((i ^^^ 1:Nat):Int):=xor_one_i64 (by omega)
   have h1:=HTl.out i hil
   have h2:=HTl.out (i ^^^ 1) hx1
   have HA1:=Lib.hid (HQa.out R wr HE.out i hil)
   have HA2:=Lib.hid (HQa.out R wr HE.out (i ^^^ 1) hx1)
   obtain⟨j,hj⟩:∃ j,i ^^^ 1=j:=⟨_,rfl⟩
   have HJ:=Lib.hid hj
   rw[hj] at hxor HA2 h2 hx1
   obtain⟨ti,hti⟩:∃ k,at' t i=k:=⟨_,rfl⟩
   obtain⟨tj,htj⟩:∃ k,at' t j=k:=⟨_,rfl⟩
   have HTi:=Lib.hid hti
   have HTj:=Lib.hid htj
   rw[hti] at HA1 h1
   rw[htj] at HA2 h2
   have hxor2:bits .xor .i64 (ti:Int) 1=((ti ^^^ 1:Nat):Int):=xor_one_i64 (by omega)
   obtain⟨tm,htm⟩:∃ j,ti ^^^ 1=j:=⟨_,rfl⟩
   have HTm:=Lib.hid htm
   rw[htm] at hxor2
   clear hj hti htj htm
   by_cases hmm:tj=tm
   ·have hbm:((tj:Int) != (tm:Int))=false:=by rw[hmm];simp
    have hsl:=HSl.out i hil
    have HSg1:=Lib.hid (HSg.out R wr HE.out i hil)
    have HA3:=Lib.hid (HQa.out R wr HE.out (at' s i) hsl)
    have hst:=HSt.out i hil
    rw[HTi.out] at hst
    obtain⟨si,hsi⟩:∃ k,at' s i=k:=⟨_,rfl⟩
    rw[hsi] at HSg1 HA3 hst
    obtain⟨y,hy⟩:∃ k,at' t si=k:=⟨_,rfl⟩
    rw[hy] at HA3 hst
    have HSt2:=Lib.hid hst
    obtain⟨_,e6,hB6,hR6,hc6,hz6⟩:=HO.out.headAt (HRl.out i) h1
    cases e6
    have hput:=HO.out.put (HRl.out i) ti h1 ((y:Nat):Int)
    rw[HSt2.out] at hput
    have HPut:=Lib.hid hput
    clear hst hsi hy hput hmm
    go_wp2_with fail
    refine HA2.out.mono ?_
    rintro e w' ⟨rfl,rfl⟩
    go_wp2_with fail
    refine HA1.out.mono ?_
    rintro e w' ⟨rfl,rfl⟩
    go_wp2_with fail
    refine HA1.out.mono ?_
    rintro e w' ⟨rfl,rfl⟩
    go_wp2_with fail
    refine HSg1.out.mono ?_
    rintro e w' ⟨rfl,rfl⟩
    go_wp2_with fail
    refine HA3.out.mono ?_
    rintro e w' ⟨rfl,rfl⟩
    go_wp2_with fail
    go_roundg (n-(i+1))
    case measure=>omega
    case rel=>exact⟨i+1,by omega,by omega,by go_num,HE.out.setCell (by show w.heap.size≤g6;rw[HG6.out];exact Nat.le_refl _) hR6 _,HPut.out,fun d hd=>by
     by_cases e:d=i
     ·subst e
      rw[HJ.out,HTj.out,HTi.out,HTm.out]
      have h9:=hbm
      simp at h9
      omega
     ·exact HAa.out d (by omega)⟩
   ·exfalso
    have:=HMt.out i (by rw[HTn.out];exact hil)
    rw[HJ.out,HTj.out,HTi.out,HTm.out] at this
    exact hmm this
  ·obtain rfl:i=n:=by omega
   have ho:=HO.out
   rw[HAl.out] at ho
   have HOf:=Lib.hid ho.free
   have HNw:=Lib.hid (HNy.out R wr HE.out.inv _ HOf.out)
   clear ho
   go_wp2_with fail
   refine (HRt.out _ _ HE.out).mono ?_
   rintro e w' ⟨rfl,rfl⟩
   go_wp2_with fail
   refine (HQr.out _ _ HE.out).mono ?_
   rintro e w' ⟨rfl,rfl⟩
   go_wp2_with fail
   refine (HLn.out _ _ HE.out).mono ?_
   rintro e w' ⟨rfl,rfl⟩
   go_wp2_with fail
   refine HNw.out.mono ?_
   rintro e w5 ⟨q,R5,rfl,he5,hq5⟩
   have HE5:=Lib.hid (HE.out.trans he5)
   have HQ5:=Lib.hid hq5
   clear he5 hq5
   go_wp2_with fail
   go_ret2
   exact⟨_,R5,rfl,HE5.out,HQ5.out⟩
end
section
open Go.RowKit
set_option linter.unusedVariables false
end
section
open Go.RowKit
set_option linter.unusedVariables false
theorem dof_out (R:Reg) (w:World) (hI:Inv R w) (p:Value) (s:List Nat) (root lone:Int) (hp:MapAt R p s root lone) (e:Int) (he:¬ (0≤e∧e<((s.length / 2:Nat):Int))):
  Calls Tryz.prog 64 #[p,.int .i64 e] w fun z w'=>z=.returned (.tuple #[.pointer none,.int .i64 1])∧w=w':=by
 have HEg:=Lib.hid (edges_any R w hI p s root lone hp)
 obtain⟨b,rfl,hb⟩:=hp
 obtain⟨E,hE⟩:∃ E,s.length / 2=E:=⟨_,rfl⟩
 rw[hE] at HEg he
 clear hI hb hE
 by_cases h0:e<0
 ·go_enter Tryz.func64,Tryz.ntmps64
  go_wp2_with fail
  go_ret2
  exact⟨rfl,rfl⟩
 ·have h1:(E:Int)≤e:=by omega
  clear he
  go_enter Tryz.func64,Tryz.ntmps64
  go_wp2_with (first|(go_at_call 21;refine HEg.out.mono ?_;rintro z w' ⟨rfl,rfl⟩))
  all_goals (try go_ret2)
  all_goals exact⟨rfl,rfl⟩
theorem dcut_out (R:Reg) (w:World) (hI:Inv R w) (p:Value) (s:List Nat) (root lone:Int) (hp:MapAt R p s root lone) (e:Int) (he:¬ (0≤e∧e<((s.length / 2:Nat):Int))):
  Calls Tryz.prog 22 #[p,.int .i64 e] w fun z w'=>z=.returned (.tuple #[.pointer none,.int .i64 1])∧w=w':=by
 have HO:=Lib.hid (dof_out R w hI p s root lone hp e he)
 clear hI hp he
 go_enter Tryz.func22,Tryz.ntmps22
 go_wp2_with fail
 refine HO.out.mono ?_
 rintro e w' ⟨rfl,rfl⟩
 go_wp2_with fail
 go_ret2
 exact⟨rfl,rfl⟩
theorem dshrink_out (R:Reg) (w:World) (hI:Inv R w) (p:Value) (s:List Nat) (root lone:Int) (hp:MapAt R p s root lone) (e:Int) (he:¬ (0≤e∧e<((s.length / 2:Nat):Int))):
  Calls Tryz.prog 20 #[p,.int .i64 e] w fun z w'=>z=.returned (.tuple #[.pointer none,.int .i64 1])∧w=w':=by
 have HO:=Lib.hid (dof_out R w hI p s root lone hp e he)
 clear hI hp he
 go_enter Tryz.func20,Tryz.ntmps20
 go_wp2_with fail
 refine HO.out.mono ?_
 rintro e w' ⟨rfl,rfl⟩
 go_wp2_with fail
 go_ret2
 exact⟨rfl,rfl⟩
set_option maxRecDepth 100000 in
set_option maxHeartbeats 1000000 in
theorem dshrink_loop (R:Reg) (w:World) (hI:Inv R w) (p:Value) (s:List Nat) (root lone:Int) (hp:MapAt R p s root lone) (e:Nat) (he:e<s.length / 2) (hnn:nth (namesL s) (2*e)=nth (namesL s) (2*e+1)):
  Calls Tryz.prog 20 #[p,.int .i64 (e:Int)] w fun z w'=>z=.returned (.tuple #[.pointer none,.int .i64 8])∧∃ R',Ev R w R' w':=by
 obtain⟨hS,hok⟩:=hp.ok hI
 have hn:=hok.2.1
 have hev:=hok.1
 have HOf:=Lib.hid (dof_any R w hI p s root lone hp e he)
 have HVx:=Lib.hid (fun R' w' (hee:Ev R w R' w') (d:Nat) (hd:d<s.length)=>(by
  have:=vertex_any R' w' hee.inv p s root lone (hee.map hp) (d:Int)
  rw[nameI_in hd] at this
  exact this:Calls Tryz.prog 65 #[p,.int .i64 (d:Int)] w' _))
 have hw2:IntKind.i64.wrap (2*(e:Int))=((2*e:Nat):Int):=by rw[show 2*(e:Int)=((2*e:Nat):Int) by omega];exact IntWalk.i64_in _ (by omega)
 have hw3:IntKind.i64.wrap (((2*e:Nat):Int)+1)=((2*e+1:Nat):Int):=by rw[show ((2*e:Nat):Int)+1=((2*e+1:Nat):Int) by omega];exact IntWalk.i64_in _ (by omega)
 obtain⟨n0,hn0⟩:∃ x,nth (namesL s) (2*e)=x:=⟨_,rfl⟩
 obtain⟨n1,hn1⟩:∃ x,nth (namesL s) (2*e+1)=x:=⟨_,rfl⟩
 have HV0:=Lib.hid (fun R' w' (hee:Ev R w R' w')=>HVx.out R' w' hee (2*e) (by omega))
 have HV1:=Lib.hid (fun R' w' (hee:Ev R w R' w')=>HVx.out R' w' hee (2*e+1) (by omega))
 rw[hn0] at HV0 hnn
 rw[hn1] at HV1 hnn
 have hbn:(n0 == n1)=true:=by simp[hnn]
 clear hI hS hok hn0 hn1 HVx hp hnn
 go_enter Tryz.func20,Tryz.ntmps20
 go_wp2_with fail
 refine HOf.out.mono ?_
 rintro z w2 ⟨b,a,cap,rfl,he2,hls⟩
 have HE2:=Lib.hid he2
 clear he2 hls
 go_wp2_with fail
 refine (HV0.out _ _ HE2.out).mono ?_
 rintro z w4 ⟨rfl,R4,he4⟩
 have HE4:=Lib.hid (HE2.out.trans he4)
 clear he4
 go_wp2_with fail
 refine (HV1.out _ _ HE4.out).mono ?_
 rintro z w5 ⟨rfl,R5,he5⟩
 have HE5:=Lib.hid (HE4.out.trans he5)
 clear he5
 go_wp2_with fail
 go_ret2
 exact⟨rfl,R5,HE5.out⟩
end
section
open Go.RowKit
set_option linter.unusedVariables false
def aftF (t d x:Nat):List Nat:=if x=t then [x,d] else [x]
def witF (d x:Nat):List Nat:=if x=d then [] else [x]
def outL (f:Nat→List Nat) (xss:List (List Nat)):List (List Nat):=xss.map fun v=>v.flatMap f
theorem outL_take {f:Nat→List Nat} {xss:List (List Nat)} {i:Nat} (hi:i<xss.length):outL f (xss.take (i+1))=outL f (xss.take i) ++ [(xss.getD i []).flatMap f]:=by
 unfold outL
 rw[List.take_succ_eq_append_getElem hi,List.map_append]
 simp[List.getD,hi]
theorem flat_take {f:Nat→List Nat} {X:List Nat} {j:Nat} (hj:j<X.length):(X.take (j+1)).flatMap f=(X.take j).flatMap f ++ f (at' X j):=by
 rw[List.take_succ_eq_append_getElem hj,List.flatMap_append,at'_eq hj]
 simp
theorem flat_len {f:Nat→List Nat} (hf:∀ x,(f x).length≤2):∀ (X:List Nat),(X.flatMap f).length≤2*X.length
 | []=>by simp
 | x :: X=>by
  have:=flat_len hf X
  have:=hf x
  rw[List.flatMap_cons,List.length_append,List.length_cons]
  omega
def RowsSm (xss:List (List Nat)):Prop:=xss.length≤100000∧∀ i,i<xss.length→(xss.getD i []).length≤100000∧∀ x,x∈xss.getD i []→x≤1000000
set_option maxRecDepth 100000 in
set_option maxHeartbeats 4000000 in
theorem after_any (R:Reg) (w:World) (hI:Inv R w) (B:Nat) (v:Value) (xss:List (List Nat)) (hv:RowsAt R B w v xss) (hsm:RowsSm xss) (t d:Nat) (ht:t≤1000000) (hd:d≤1000000):
  Calls Tryz.prog 118 #[v,.int .i64 (t:Int),.int .i64 (d:Int)] w (RetLL R w (outL (aftF t d) xss)):=by
 obtain⟨a,c,vs,rfl,hov,hrw⟩:=hv
 obtain⟨hl,hrs⟩:=hsm
 obtain⟨n,hn⟩:∃ n,xss.length=n:=⟨_,rfl⟩
 have HN:=Lib.hid hn
 have HI:=Lib.hid hI
 have HRs:=Lib.hid hrs
 obtain⟨f,hf⟩:∃ f,(aftF t d)=f:=⟨_,rfl⟩
 have hf2:∀ x,(f x).length≤2:=fun x=>by rw[←hf];unfold aftF;split <;> simp
 have HF:=Lib.hid hf
 have HF2:=Lib.hid hf2
 rw[hf]
 rw[hn] at hov hrw hl hrs ⊢
 have HOv:=Lib.hid hov
 have HRw:=Lib.hid hrw
 clear hI hov hrw hn hrs hf hf2
 go_enter Tryz.func118,Tryz.ntmps118
 go_wp2_with fail
 go_loopg [7,15] n (fun g v7 v15 wr=>∃ (i:Nat),i≤n∧n-i≤g∧v15=.int .i64 (i:Int)∧Ev R w R wr∧RowsAt R w.heap.size wr v7 (outL f (xss.take i)))
 case atStart=>exact⟨0,Nat.zero_le _,by omega,rfl,Ev.refl HI.out,none,0,[],rfl,OwnV.nil _ _ _ _ _,RowsLL.nil _ _ _⟩
 case round=>
  obtain⟨i,hin,hg,rfl,hev,hra⟩:=hrel
  have HE:=Lib.hid hev
  by_cases hi:i<n
  ·obtain⟨a7,c7,vs7,rfl,hov7,hrw7⟩:=hra
   have hl7:(outL f (xss.take i)).length=i:=by unfold outL;rw[List.length_map,List.length_take,HN.out];omega
   rw[hl7] at hov7 hrw7 ⊢
   have HOv7:=Lib.hid hov7
   have HRw7:=Lib.hid hrw7
   have HL7:=Lib.hid hl7
   obtain⟨u,hu,ai,ci,hue,hfr,_⟩:=(HRw.out.ev hev).row i (by rw[HN.out];exact hi)
   have hui:i<vs.length:=by rw[HRw.out.len,HN.out];exact hi
   obtain⟨g0,rfl,_,_,hc0,_⟩:=(HOv.out.ev hev).headAt (i:=i) hui
   rw[hu] at hc0
   obtain⟨X,hX⟩:∃ X,xss.getD i []=X:=⟨_,rfl⟩
   rw[hX] at hue hfr
   subst hue
   have hxs:=HRs.out i (by rw[HN.out];exact hi)
   rw[hX] at hxs
   obtain⟨L,hL⟩:∃ L,X.length=L:=⟨_,rfl⟩
   rw[hL] at hfr hxs hc0
   have HLe:=Lib.hid hL
   have HXe:=Lib.hid hX
   have HFr:=Lib.hid hfr
   have HXs:=Lib.hid hxs
   have hir:(i:Int)<(n:Int):=by omega
   have hLb:L≤100000:=HXs.out.1
   obtain⟨wr0,hwr0⟩:∃ x,x=wr:=⟨_,rfl⟩
   subst hwr0
   clear hu hov7 hrw7 hl7 hev hL hX hfr hxs
   go_wp2_with fail
   go_loopg [10,21] L (fun g v10 v21 wq=>∃ (j:Nat) (a10:Option Addr) (l10 c10:Nat),j≤L∧L-j≤g∧v21=.int .i64 (j:Int)∧v10=.slice a10 l10 c10∧Ev R wr0 R wq∧OwnI R wr0.heap.size 3 wq (.slice a10 l10 c10) (toI ((X.take j).flatMap f)))
   case atStart=>exact⟨0,none,0,0,Nat.zero_le _,by omega,rfl,rfl,Ev.refl HE.out.inv,OwnI.nil _ _ _ _⟩
   case round=>
    clear hc0
    obtain⟨j,a10,l10,c10,hjl,hgj,rfl,rfl,hevq,hoq⟩:=hrel
    have HEq:=Lib.hid hevq
    have HOq:=Lib.hid hoq
    clear hevq hoq
    by_cases hj:j<L
    ·obtain⟨bS,oS,rfl,hcx⟩:=(HFr.out.ev HEq.out).at (i:=j) (by rw[HLe.out];exact hj)
     obtain⟨x,hx⟩:∃ x,at' X j=x:=⟨_,rfl⟩
     rw[hx] at hcx
     have hjr:(j:Int)<(L:Int):=by omega
     have hft:=flat_take (f:=f) (X:=X) (j:=j) (by rw[HLe.out];exact hj)
     rw[hx] at hft
     have hlt:(toI ((X.take j).flatMap f)).length≤200000:=by
      have h1:=flat_len HF2.out (X.take j)
      have h2:=HXs.out.1
      rw[toI_length]
      rw[List.length_take] at h1
      omega
     have HLt:=Lib.hid hlt
     have HFt:=Lib.hid hft
     clear hx hft hlt
     by_cases hxt:x=t
     ·have hbe:((x:Int) == (t:Int))=true:=by simp[hxt]
      have HPc:Hid (f x=[x,d]):=Lib.hid (by rw[←HF.out];unfold aftF;rw[if_pos hxt])
      clear hxt
      have HOa:=Lib.hid (HOq.out.alloc (.cells #[.int .i64 (x:Int)] 3))
      have HEa:=Lib.hid (HEq.out.alloc (.cells #[.int .i64 (x:Int)] 3))
      go_wp2_with (at_builtin;refine wpList_app_ints (R:=R) (B:=wr0.heap.size) rfl _ _ rfl HOa.out rfl ⟨wr.heap.size,0,none⟩ 1 1 [((x:Int):Int)] rfl ?k0 ?k1 ?k2 ?k3 ?k4 ?_)
      try (case k0=>first|rfl|simp)
      case k1=>first|(intro j hj;match j,hj with|0,_=>simp[Addr.add,nth])|rfl|simp[nth]
      case k2=>have:=HLt.out;first|omega|(simp at this ⊢;omega)
      case k3=>exact HEa.out.size
      case k4=>exact fun q hq=>HEa.out.inv.none_of_ge hq
      intro v5 w5 hok hgk hsk
      obtain⟨ak,ck,rfl,_⟩:=hok.ints.open
      obtain⟨lk,hlk⟩:∃ l,(toI (List.flatMap f (List.take j X)) ++ [(x:Int)]).length=l:=⟨_,rfl⟩
      rw[hlk] at hok hsk
      try rw[hlk]
      have HEk:=Lib.hid (HEa.out.app HOa.out (Nat.le_refl _) hgk)
      have HOk:=Lib.hid hok
      clear hok hgk hsk hlk
      have HOb:=Lib.hid (HOk.out.alloc (.cells #[.int .i64 (d:Int)] 3))
      have HEb:=Lib.hid (HEk.out.alloc (.cells #[.int .i64 (d:Int)] 3))
      go_wp2_with (at_builtin;refine wpList_app_ints (R:=R) (B:=wr0.heap.size) rfl _ _ rfl HOb.out rfl ⟨w5.heap.size,0,none⟩ 1 1 [((d:Int):Int)] rfl ?m0 ?m1 ?m2 ?m3 ?m4 ?_)
      try (case m0=>first|rfl|simp)
      case m1=>first|(intro j hj;match j,hj with|0,_=>simp[Addr.add,nth])|rfl|simp[nth]
      case m2=>have:=HLt.out;first|omega|(simp at this ⊢;omega)
      case m3=>exact HEb.out.size
      case m4=>exact fun q hq=>HEb.out.inv.none_of_ge hq
      intro v6 w6 hom hgm hsm
      obtain⟨am,cm,rfl,_⟩:=hom.ints.open
      obtain⟨lm,hlm⟩:∃ l,(toI (List.flatMap f (List.take j X)) ++ [(x:Int),(d:Int)]).length=l:=⟨_,rfl⟩
      rw[hlm] at hom hsm
      try rw[hlm]
      have HEm:=Lib.hid (HEb.out.app HOb.out (Nat.le_refl _) hgm)
      have HOm:=Lib.hid hom
      clear hom hgm hsm hlm
      go_wp2_with fail
      go_roundg (L-(j+1))
      case measure=>omega
      case rel=>exact⟨j+1,am,lm,cm,by omega,by omega,by go_num,rfl,HEm.out,by
       have h:=HOm.out
       rw[HFt.out,HPc.out]
       have e:toI (List.flatMap f (List.take j X) ++ [x,d])=toI (List.flatMap f (List.take j X)) ++ [(x:Int),(d:Int)]:=by simp[toI]
       rw[e]
       exact h⟩
     ·have hbe:((x:Int) == (t:Int))=false:=by simp;omega
      have HPc:Hid (f x=[x]):=Lib.hid (by rw[←HF.out];unfold aftF;rw[if_neg hxt])
      clear hxt
      have HOa:=Lib.hid (HOq.out.alloc (.cells #[.int .i64 (x:Int)] 3))
      have HEa:=Lib.hid (HEq.out.alloc (.cells #[.int .i64 (x:Int)] 3))
      go_wp2_with (at_builtin;refine wpList_app_ints (R:=R) (B:=wr0.heap.size) rfl _ _ rfl HOa.out rfl ⟨wr.heap.size,0,none⟩ 1 1 [((x:Int):Int)] rfl ?p0 ?p1 ?p2 ?p3 ?p4 ?_)
      try (case p0=>first|rfl|simp)
      case p1=>first|(intro j hj;match j,hj with|0,_=>simp[Addr.add,nth])|rfl|simp[nth]
      case p2=>have:=HLt.out;first|omega|(simp at this ⊢;omega)
      case p3=>exact HEa.out.size
      case p4=>exact fun q hq=>HEa.out.inv.none_of_ge hq
      intro v5 w5 hop hgp hsp
      obtain⟨ap,cp,rfl,_⟩:=hop.ints.open
      obtain⟨lp,hlp⟩:∃ l,(toI (List.flatMap f (List.take j X)) ++ [(x:Int)]).length=l:=⟨_,rfl⟩
      rw[hlp] at hop hsp
      try rw[hlp]
      have HEp:=Lib.hid (HEa.out.app HOa.out (Nat.le_refl _) hgp)
      have HOp:=Lib.hid hop
      clear hop hgp hsp hlp
      go_wp2_with fail
      go_roundg (L-(j+1))
      case measure=>omega
      case rel=>exact⟨j+1,ap,lp,cp,by omega,by omega,by go_num,rfl,HEp.out,by
       have h:=HOp.out
       rw[HFt.out,HPc.out]
       have e:toI (List.flatMap f (List.take j X) ++ [x])=toI (List.flatMap f (List.take j X)) ++ [(x:Int)]:=by simp[toI]
       rw[e]
       exact h⟩
    ·obtain rfl:j=L:=by omega
     have hall:X.take j=X:=by rw[←HLe.out,List.take_length]
     obtain⟨Y,hY⟩:∃ Y,X.flatMap f=Y:=⟨_,rfl⟩
     have hoq:=HOq.out
     rw[hall,hY] at hoq
     have hYl:l10=Y.length:=by
      have:=hoq.ints.length_eq
      rw[toI_length] at this
      exact this
     obtain⟨NY,hNY⟩:∃ N,Y.length=N:=⟨_,rfl⟩
     rw[hNY] at hYl
     subst hYl
     have HOy:=Lib.hid hoq
     have hov8:=HOv7.out.ev HEq.out
     have hrw8:=HRw7.out.ev HEq.out
     have hrow:=rowOk_new hoq hNY HOv7.out
     have hE8:=(Ev.refl HEq.out.inv).alloc (.cells #[.slice a10 l10 c10] 25)
     have HOv8:=Lib.hid (hov8.alloc (.cells #[.slice a10 l10 c10] 25))
     have HRw8:=Lib.hid (hrw8.ev hE8)
     have HRo8:=Lib.hid (hrow.ev hE8)
     have HE8:=Lib.hid ((HE.out.trans HEq.out).alloc (.cells #[.slice a10 l10 c10] 25))
     have hot:=outL_take (f:=f) (xss:=xss) (i:=i) (by rw[HN.out];exact hi)
     rw[HXe.out,hY] at hot
     have HOt:=Lib.hid hot
     clear hall hY hoq hNY hov8 hrw8 hrow hE8 hot
     go_wp2_with (at_builtin;refine wpList_app_row 134 25 1 24 nilS Tryz.underlying134 islice_info rfl (by decide) (by decide) rfl _ _ rfl HOv8.out rfl ⟨wr.heap.size,0,none⟩ 1 1 [.slice a10 l10 c10] rfl ?z0 ?z1 ?z2 ?z3 ?z4 ?z5 ?_)
     try (case z0=>first|rfl|simp)
     case z1=>exact one_cell _ _
     case z2=>exact one_one _ _ _
     case z3=>omega
     case z4=>exact HE8.out.size
     case z5=>exact fun q hq=>HE8.out.inv.none_of_ge hq
     intro v9 w9 ho9 hg9 hs9
     have hra9:=rows_next (xss:=outL f (xss.take i)) HL7.out.symm HRw8.out HRo8.out ho9 hg9 (fun q hq=>(hs9 q hq).imp id (fun h=>by first|exact h|simpa using h))
     rw[←HOt.out] at hra9
     have HRa9:=Lib.hid hra9
     have HE9:=Lib.hid (HE8.out.appV HOv8.out (Nat.le_refl _) hg9)
     clear hra9 ho9 hg9 hs9 HE8 HOv8 HRw8 HRo8
     go_wp2_with fail
     go_roundg (n-(i+1))
     case measure=>omega
     case rel=>exact⟨i+1,by omega,by omega,by go_num,HE9.out,HRa9.out⟩
  ·obtain rfl:i=n:=by omega
   have hall:xss.take i=xss:=by rw[←HN.out,List.take_length]
   rw[hall] at hra
   obtain⟨a7,c7,vs7,rfl,hov7,hrw7⟩:=hra
   have HH:=Lib.hid (show Ev R w R wr∧_∧_ from⟨hev,hov7,hrw7⟩)
   clear hall hov7 hrw7 hev
   go_wp2_with fail
   go_ret
   obtain⟨hev,hov7,hrw7⟩:=HH.out
   exact⟨a7,c7,vs7,rfl,hev,hov7,hrw7⟩
set_option maxRecDepth 100000 in
set_option maxHeartbeats 4000000 in
theorem without_any (R:Reg) (w:World) (hI:Inv R w) (B:Nat) (v:Value) (xss:List (List Nat)) (hv:RowsAt R B w v xss) (hsm:RowsSm xss) (d:Nat) (hd:d≤1000000):
  Calls Tryz.prog 119 #[v,.int .i64 (d:Int)] w (RetLL R w (outL (witF d) xss)):=by
 obtain⟨a,c,vs,rfl,hov,hrw⟩:=hv
 obtain⟨hl,hrs⟩:=hsm
 obtain⟨n,hn⟩:∃ n,xss.length=n:=⟨_,rfl⟩
 have HN:=Lib.hid hn
 have HI:=Lib.hid hI
 have HRs:=Lib.hid hrs
 obtain⟨f,hf⟩:∃ f,(witF d)=f:=⟨_,rfl⟩
 have hf2:∀ x,(f x).length≤2:=fun x=>by rw[←hf];unfold witF;split <;> simp
 have HF:=Lib.hid hf
 have HF2:=Lib.hid hf2
 rw[hf]
 rw[hn] at hov hrw hl hrs ⊢
 have HOv:=Lib.hid hov
 have HRw:=Lib.hid hrw
 clear hI hov hrw hn hrs hf hf2
 go_enter Tryz.func119,Tryz.ntmps119
 go_wp2_with fail
 go_loopg [5,13] n (fun g v7 v15 wr=>∃ (i:Nat),i≤n∧n-i≤g∧v15=.int .i64 (i:Int)∧Ev R w R wr∧RowsAt R w.heap.size wr v7 (outL f (xss.take i)))
 case atStart=>exact⟨0,Nat.zero_le _,by omega,rfl,Ev.refl HI.out,none,0,[],rfl,OwnV.nil _ _ _ _ _,RowsLL.nil _ _ _⟩
 case round=>
  obtain⟨i,hin,hg,rfl,hev,hra⟩:=hrel
  have HE:=Lib.hid hev
  by_cases hi:i<n
  ·obtain⟨a7,c7,vs7,rfl,hov7,hrw7⟩:=hra
   have hl7:(outL f (xss.take i)).length=i:=by unfold outL;rw[List.length_map,List.length_take,HN.out];omega
   rw[hl7] at hov7 hrw7 ⊢
   have HOv7:=Lib.hid hov7
   have HRw7:=Lib.hid hrw7
   have HL7:=Lib.hid hl7
   obtain⟨u,hu,ai,ci,hue,hfr,_⟩:=(HRw.out.ev hev).row i (by rw[HN.out];exact hi)
   have hui:i<vs.length:=by rw[HRw.out.len,HN.out];exact hi
   obtain⟨g0,rfl,_,_,hc0,_⟩:=(HOv.out.ev hev).headAt (i:=i) hui
   rw[hu] at hc0
   obtain⟨X,hX⟩:∃ X,xss.getD i []=X:=⟨_,rfl⟩
   rw[hX] at hue hfr
   subst hue
   have hxs:=HRs.out i (by rw[HN.out];exact hi)
   rw[hX] at hxs
   obtain⟨L,hL⟩:∃ L,X.length=L:=⟨_,rfl⟩
   rw[hL] at hfr hxs hc0
   have HLe:=Lib.hid hL
   have HXe:=Lib.hid hX
   have HFr:=Lib.hid hfr
   have HXs:=Lib.hid hxs
   have hir:(i:Int)<(n:Int):=by omega
   have hLb:L≤100000:=HXs.out.1
   obtain⟨wr0,hwr0⟩:∃ x,x=wr:=⟨_,rfl⟩
   subst hwr0
   clear hu hov7 hrw7 hl7 hev hL hX hfr hxs
   go_wp2_with fail
   go_loopg [8,19] L (fun g v10 v21 wq=>∃ (j:Nat) (a10:Option Addr) (l10 c10:Nat),j≤L∧L-j≤g∧v21=.int .i64 (j:Int)∧v10=.slice a10 l10 c10∧Ev R wr0 R wq∧OwnI R wr0.heap.size 3 wq (.slice a10 l10 c10) (toI ((X.take j).flatMap f)))
   case atStart=>exact⟨0,none,0,0,Nat.zero_le _,by omega,rfl,rfl,Ev.refl HE.out.inv,OwnI.nil _ _ _ _⟩
   case round=>
    clear hc0
    obtain⟨j,a10,l10,c10,hjl,hgj,rfl,rfl,hevq,hoq⟩:=hrel
    have HEq:=Lib.hid hevq
    have HOq:=Lib.hid hoq
    clear hevq hoq
    by_cases hj:j<L
    ·obtain⟨bS,oS,rfl,hcx⟩:=(HFr.out.ev HEq.out).at (i:=j) (by rw[HLe.out];exact hj)
     obtain⟨x,hx⟩:∃ x,at' X j=x:=⟨_,rfl⟩
     rw[hx] at hcx
     have hjr:(j:Int)<(L:Int):=by omega
     have hft:=flat_take (f:=f) (X:=X) (j:=j) (by rw[HLe.out];exact hj)
     rw[hx] at hft
     have hlt:(toI ((X.take j).flatMap f)).length≤200000:=by
      have h1:=flat_len HF2.out (X.take j)
      have h2:=HXs.out.1
      rw[toI_length]
      rw[List.length_take] at h1
      omega
     have HLt:=Lib.hid hlt
     have HFt:=Lib.hid hft
     clear hx hft hlt
     by_cases hxt:x=d
     ·have hbe:((x:Int) != (d:Int))=false:=by simp[hxt]
      have HPc:Hid (f x=[]):=Lib.hid (by rw[←HF.out];unfold witF;rw[if_pos hxt])
      clear hxt
      go_wp2_with fail
      go_roundg (L-(j+1))
      case measure=>omega
      case rel=>exact⟨j+1,a10,l10,c10,by omega,by omega,by go_num,rfl,HEq.out,by rw[HFt.out,HPc.out,List.append_nil];exact HOq.out⟩
     ·have hbe:((x:Int) != (d:Int))=true:=by simp;omega
      have HPc:Hid (f x=[x]):=Lib.hid (by rw[←HF.out];unfold witF;rw[if_neg hxt])
      clear hxt
      have HOa:=Lib.hid (HOq.out.alloc (.cells #[.int .i64 (x:Int)] 3))
      have HEa:=Lib.hid (HEq.out.alloc (.cells #[.int .i64 (x:Int)] 3))
      go_wp2_with (at_builtin;refine wpList_app_ints (R:=R) (B:=wr0.heap.size) rfl _ _ rfl HOa.out rfl ⟨wr.heap.size,0,none⟩ 1 1 [((x:Int):Int)] rfl ?p0 ?p1 ?p2 ?p3 ?p4 ?_)
      try (case p0=>first|rfl|simp)
      case p1=>first|(intro j hj;match j,hj with|0,_=>simp[Addr.add,nth])|rfl|simp[nth]
      case p2=>have:=HLt.out;first|omega|(simp at this ⊢;omega)
      case p3=>exact HEa.out.size
      case p4=>exact fun q hq=>HEa.out.inv.none_of_ge hq
      intro v5 w5 hop hgp hsp
      obtain⟨ap,cp,rfl,_⟩:=hop.ints.open
      obtain⟨lp,hlp⟩:∃ l,(toI (List.flatMap f (List.take j X)) ++ [(x:Int)]).length=l:=⟨_,rfl⟩
      rw[hlp] at hop hsp
      try rw[hlp]
      have HEp:=Lib.hid (HEa.out.app HOa.out (Nat.le_refl _) hgp)
      have HOp:=Lib.hid hop
      clear hop hgp hsp hlp
      go_wp2_with fail
      go_roundg (L-(j+1))
      case measure=>omega
      case rel=>exact⟨j+1,ap,lp,cp,by omega,by omega,by go_num,rfl,HEp.out,by
       have h:=HOp.out
       rw[HFt.out,HPc.out]
       have e:toI (List.flatMap f (List.take j X) ++ [x])=toI (List.flatMap f (List.take j X)) ++ [(x:Int)]:=by simp[toI]
       rw[e]
       exact h⟩
    ·obtain rfl:j=L:=by omega
     have hall:X.take j=X:=by rw[←HLe.out,List.take_length]
     obtain⟨Y,hY⟩:∃ Y,X.flatMap f=Y:=⟨_,rfl⟩
     have hoq:=HOq.out
     rw[hall,hY] at hoq
     have hYl:l10=Y.length:=by
      have:=hoq.ints.length_eq
      rw[toI_length] at this
      exact this
     obtain⟨NY,hNY⟩:∃ N,Y.length=N:=⟨_,rfl⟩
     rw[hNY] at hYl
     subst hYl
     have HOy:=Lib.hid hoq
     have hov8:=HOv7.out.ev HEq.out
     have hrw8:=HRw7.out.ev HEq.out
     have hrow:=rowOk_new hoq hNY HOv7.out
     have hE8:=(Ev.refl HEq.out.inv).alloc (.cells #[.slice a10 l10 c10] 25)
     have HOv8:=Lib.hid (hov8.alloc (.cells #[.slice a10 l10 c10] 25))
     have HRw8:=Lib.hid (hrw8.ev hE8)
     have HRo8:=Lib.hid (hrow.ev hE8)
     have HE8:=Lib.hid ((HE.out.trans HEq.out).alloc (.cells #[.slice a10 l10 c10] 25))
     have hot:=outL_take (f:=f) (xss:=xss) (i:=i) (by rw[HN.out];exact hi)
     rw[HXe.out,hY] at hot
     have HOt:=Lib.hid hot
     clear hall hY hoq hNY hov8 hrw8 hrow hE8 hot
     go_wp2_with (at_builtin;refine wpList_app_row 134 25 1 24 nilS Tryz.underlying134 islice_info rfl (by decide) (by decide) rfl _ _ rfl HOv8.out rfl ⟨wr.heap.size,0,none⟩ 1 1 [.slice a10 l10 c10] rfl ?z0 ?z1 ?z2 ?z3 ?z4 ?z5 ?_)
     try (case z0=>first|rfl|simp)
     case z1=>exact one_cell _ _
     case z2=>exact one_one _ _ _
     case z3=>omega
     case z4=>exact HE8.out.size
     case z5=>exact fun q hq=>HE8.out.inv.none_of_ge hq
     intro v9 w9 ho9 hg9 hs9
     have hra9:=rows_next (xss:=outL f (xss.take i)) HL7.out.symm HRw8.out HRo8.out ho9 hg9 (fun q hq=>(hs9 q hq).imp id (fun h=>by first|exact h|simpa using h))
     rw[←HOt.out] at hra9
     have HRa9:=Lib.hid hra9
     have HE9:=Lib.hid (HE8.out.appV HOv8.out (Nat.le_refl _) hg9)
     clear hra9 ho9 hg9 hs9 HE8 HOv8 HRw8 HRo8
     go_wp2_with fail
     go_roundg (n-(i+1))
     case measure=>omega
     case rel=>exact⟨i+1,by omega,by omega,by go_num,HE9.out,HRa9.out⟩
  ·obtain rfl:i=n:=by omega
   have hall:xss.take i=xss:=by rw[←HN.out,List.take_length]
   rw[hall] at hra
   obtain⟨a7,c7,vs7,rfl,hov7,hrw7⟩:=hra
   have HH:=Lib.hid (show Ev R w R wr∧_∧_ from⟨hev,hov7,hrw7⟩)
   clear hall hov7 hrw7 hev
   go_wp2_with fail
   go_ret
   obtain⟨hev,hov7,hrw7⟩:=HH.out
   exact⟨a7,c7,vs7,rfl,hev,hov7,hrw7⟩
end
end Go.Proofs.YtklkgicjfnbndaaGreat
