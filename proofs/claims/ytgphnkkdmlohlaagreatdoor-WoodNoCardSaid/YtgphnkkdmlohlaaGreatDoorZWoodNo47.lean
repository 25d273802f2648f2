/- WoodNo, the walk: it answers true. Conditions: none. -/
import Derived.Test.YtgphnkkdmlohlaaGreatDoorZWoodNo45
import Derived.Test.YtgphnkkdmlohlaaGreatDoorZWoodNo46
import Derived.Test.YtgphnkkdmlohlaaGreatDoorZWoodNo44
import Derived.Test.YtgphnkkdmlohlaaGreatDoorZWoodNo39
namespace Go.Proofs.YtgphnkkdmlohlaaGreatDoor
open Go.RowKit
set_option linter.unusedVariables false
set_option linter.unusedSimpArgs false
set_option maxRecDepth 100000 in
set_option maxHeartbeats 6000000 in
theorem woodNo_walk (w:World) (n root:Nat) (vv cc:Int) (hn:n≤65535) (hr:root≤255) (v:Value) (bs:List Nat) (hv:FreeB noReg w v bs):
  Calls Tryz.prog 5 #[.int .u16 (n:Int),v,.int .u8 (root:Int),.int .i64 vv,.int .i64 cc] w (RetTrue noReg w):=by
 have HA:=Lib.hid (awake15_any noReg w (Inv.noReg w))
 have HPl:=Lib.hid (fun R' w' (h:Ev noReg w R' w')=>r12plane_any R' w' h.inv (n % 10) (by omega) v bs (hv.ev h) root hr)
 obtain⟨q,hq⟩:∃ q,n % 10=q:=⟨_,rfl⟩
 have hq10:q<10:=by omega
 have hqm:(n:Int) % 10=(q:Int):=by omega
 rw[hq] at HPl
 obtain⟨a0,c0,rfl,_,_⟩:=hv
 clear hq
 go_enter Tryz.func5,Tryz.ntmps5
 go_wp2_with fail
 refine HA.out.mono ?_
 rintro z w1 ⟨rfl,R1,he1⟩
 have HE1:=Lib.hid he1
 have HPl:=Lib.hid (HPl.out _ _ he1)
 clear he1 HA
 go_wp2_with fail
 refine HPl.out.mono ?_
 rintro z w2 ⟨S,rt,ln,hS,hok,hl,hln,a2,c2,rfl,he2,ho2⟩
 obtain⟨l,rfl⟩:∃ l:Nat,ln=(l:Int):=⟨ln.toNat,by have:=hok.2.2.1;omega⟩
 as_aux_lemma=>
  unfold refV
  have HE2:=Lib.hid (HE1.out.trans he2)
  have HF2:=Lib.hid ho2.free
  have HS:=Lib.hid hS
  have HOk:=Lib.hid hok
  have hN1:S.length≤20:=by omega
  obtain⟨N,hN⟩:∃ N,S.length=N:=⟨_,rfl⟩
  have HN:=Lib.hid hN
  rw[hN] at HF2 hN1 ⊢
  have hn2:=he2.inv.none_of_ge (Nat.le_refl w2.heap.size)
  have hea:=HE2.out.alloc (.cells #[.slice a2 N c2,.int .i64 rt,.int .i64 (l:Int)] 27)
  have hb2:=heap_alloc_new w2 (.cells #[.slice a2 N c2,.int .i64 rt,.int .i64 (l:Int)] 27)
  have hfa:=HF2.out.ev ((Ev.refl he2.inv).alloc (.cells #[.slice a2 N c2,.int .i64 rt,.int .i64 (l:Int)] 27))
  obtain⟨wa,hwa⟩:∃ x,w2.alloc (.cells #[.slice a2 N c2,.int .i64 rt,.int .i64 (l:Int)] 27)=x:=⟨_,rfl⟩
  obtain⟨bx,hbx⟩:∃ x,w2.heap.size=x:=⟨_,rfl⟩
  rw[hwa] at hea hb2 hfa
  rw[hbx] at hn2 hb2
  have HX:=Lib.hid (fun R' w' (h:Ev R1 wa R' w')=>(boxC_cells (h.boxC3 hb2 hn2).1))
  have HEa:=Lib.hid hea
  have hnl:(namesL S).length=N:=by rw[namesL_length,hN]
  have HNl:=Lib.hid hnl
  have HOf:=Lib.hid (fun R' w' (h:Ev R1 wa R' w')=>of15_any R' w' h.inv _ S rt (l:Int) (by have t:=hfa.ev h;exact t) hS hok)
  have HTb:=Lib.hid (fun R' w' (h:Ev R1 wa R' w')=>r8tri_any R' w' h.inv _ S rt l (hfa.ev h) hS hok.2.1 hok.1 (by have:=hok.2.2.2.1;omega))
  have HVe:=Lib.hid (fun R' w' (h:Ev R1 wa R' w')=>rvertices_any R' w' h.inv _ S rt (l:Int) (hfa.ev h) hS (by omega) hok.2.2.1 hok.2.2.2.1)
  have HNa:=Lib.hid (fun R' w' (h:Ev R1 wa R' w')=>rnames_any R' w' h.inv _ S (hfa.ev h) hS (by omega))
  unfold refV at HOf HTb HVe
  have HWn:=Lib.hid (fun w'=>woodOf_nil w')
  have HMn:=Lib.hid (fun w' v=>wmake_nil w' v)
  have HMp:=Lib.hid (fun w'=>wmap_nil w')
  have HOt:=Lib.hid (fun w'=>wout_nil w' vv)
  have HLs:=Lib.hid (fun w'=>wlist_nil w')
  have HCh:=Lib.hid (fun w'=>wchildren_no w' (.pointer none) vv cc (whas_nil w' vv cc))
  have HPh:=Lib.hid (fun w'=>wpath_no w' (.pointer none) vv cc (whas_nil w' vv cc))
  have HPr:=Lib.hid (fun w'=>wparent_no w' (.pointer none) vv cc (whas_nil w' vv cc))
  clear he2 ho2 hS hok hl hln HPl HE1 hN hn2 hea hb2 hfa hnl HF2 HE2
  obtain⟨x0,x1,x2,-⟩:=HX.out _ _ (Ev.refl HEa.out.inv)
  go_wp2_with fail
  try rw[hwa]
  try rw[hbx]
  clear hwa hbx x0 x1 x2
  refine (HOf.out _ _ (Ev.refl HEa.out.inv)).mono ?_
  rintro z w3 ⟨p,R3,rfl,he3,hp3⟩
  have HE3:=Lib.hid he3
  have HP3:=Lib.hid hp3
  clear he3 hp3
  cases htri:triB S l with
  | true=>
   rw[htri] at HTb
   obtain⟨hT,hl⟩:=triS_of HS.out HOk.out.1 htri
   subst hl
   have hbig:0<S.length:=by have h1:=hT.big;have h2:=sizesL_le HS.out;omega
   obtain⟨r,hrr,hrl⟩:∃ r:Nat,rt=(r:Int)∧r<S.length:=by
    have:=HOk.out.2.2.2.2
    exact⟨rt.toNat,by omega,by omega⟩
   subst hrr
   have HWo:=Lib.hid (woodOf_tri R3 w3 HE3.out.inv p S r HP3.out hT hrl)
   have HMk:=Lib.hid (fun R' w' (h:Inv R' w') p' (hp':MapAt R' p' S (r:Int) 0)=>wmake_len R' w' h p' S r hp' hT hrl none 0 0 (by omega) (by omega))
   have hwl:=woodR_len hT hrl
   rw[HN.out] at hwl
   have hVn:(sizesL S).length≤20:=by have h1:=sizesL_le HS.out;have:=HN.out;omega
   obtain⟨V,hV⟩:∃ V,(sizesL S).length=V:=⟨_,rfl⟩
   have HVq:=Lib.hid hV
   rw[hV] at HVe hVn
   rw[show (V:Int)+((0:Nat):Int)=(V:Int) by omega] at HVe
   have HWl:=Lib.hid hwl
   have hnl2:(0:Int)≤(V:Int):=by omega
   unfold RetWood at HWo
   clear hT hbig hrl htri hV hwl
   go_wp2_with fail
   refine HWo.out.mono ?_
   rintro z w4 ⟨b,R4,D,rfl,he4,hD,hA⟩
   as_aux_lemma=>
   have HE4:=Lib.hid (HE3.out.trans he4)
   have HA4:=Lib.hid hA
   have HDl:Hid (D.length=V):=Lib.hid (by rw[hD.1,HVq.out])
   obtain⟨x0,x1,x2,-⟩:=HX.out _ _ HE4.out
   clear he4 hD hA HWo
   go_wp2_with fail
   refine (HOf.out _ _ HE4.out).mono ?_
   rintro z w5 ⟨p5,R5,rfl,he5,hp5⟩
   have HE5:=Lib.hid (HE4.out.trans he5)
   have HA5:=Lib.hid (HA4.out.ev he5)
   have HM5:=Lib.hid (HMk.out R5 w5 he5.inv p5 hp5)
   clear he5 hp5 HOf x0 x1 x2
   go_wp2_with fail
   refine HM5.out.mono ?_
   rintro z w6 ⟨rfl,R6,he6⟩
   have HE7:=Lib.hid (HE5.out.trans he6)
   have HA7:=Lib.hid (HA5.out.ev he6)
   clear he6 HM5
   go_wp2_with fail
   refine (HWn.out _).mono ?_
   rintro z w8 ⟨rfl,rfl⟩
   go_wp2_with fail
   refine (HMn.out _ _).mono ?_
   rintro z w8 ⟨rfl,rfl⟩
   go_wp2_with fail
   refine (HMp.out _).mono ?_
   rintro z w8 ⟨rfl,rfl⟩
   go_wp2_with fail
   refine (HOt.out _).mono ?_
   rintro z w8 ⟨rfl,rfl⟩
   go_wp2_with fail
   refine (HLs.out _).mono ?_
   rintro z w8 ⟨rfl,rfl⟩
   simp only[nilS]
   go_wp2_with fail
   refine (HCh.out _).mono ?_
   rintro z w8 ⟨rfl,rfl⟩
   simp only[nilS]
   go_wp2_with fail
   refine (HPh.out _).mono ?_
   rintro z w8 ⟨rfl,rfl⟩
   simp only[nilS]
   go_wp2_with fail
   refine (HPr.out _).mono ?_
   rintro z w8 ⟨rfl,rfl⟩
   obtain⟨x0,x1,x2,-⟩:=HX.out _ _ HE7.out
   have HTc:=Lib.hid (HTb.out _ _ HE7.out)
   go_wp2_with fail
   refine HTc.out.mono ?_
   rintro z w9 ⟨rfl,he9⟩
   have HE9:=Lib.hid (HE7.out.trans he9)
   have HA9:=Lib.hid (HA7.out.ev he9)
   clear he9 x0 x1 x2 HTc
   have HEl:=Lib.hid (Ev.refl HE9.out.inv)
   obtain⟨x0,x1,x2,-⟩:=HX.out _ _ HE9.out
   have HVc:=Lib.hid (HVe.out _ _ HE9.out)
   go_upto_region 13 with fail
   go_cut [21] (fun s21 wx=>∃ (wn:World) (k:Bool),wn=wx∧s21=.bool k∧decide (0≤vv∧vv<(V:Int)∧0≤cc∧cc<3)=k∧Ev R6 w9 R6 wn)
   case first=>
    by_cases a1:0≤vv
    ·have b1:decide (vv ≥ 0)=true:=decide_eq_true a1
     have b1':decide (0≤vv)=true:=decide_eq_true a1
     by_cases a2:vv<(V:Int)
     ·have b2:decide (vv<(V:Int))=true:=decide_eq_true a2
      by_cases a3:0≤cc
      ·have b3:decide (cc ≥ 0)=true:=decide_eq_true a3
       have b3':decide (0≤cc)=true:=decide_eq_true a3
       by_cases a4:cc<3
       ·have b4:decide (cc<3)=true:=decide_eq_true a4
        have HKk:Hid (decide (0≤vv∧vv<(V:Int)∧0≤cc∧cc<3)=true):=Lib.hid (decide_eq_true ⟨a1,a2,a3,a4⟩)
        clear a1 a2 a3 a4
        go_wp2_with fail
        refine HVc.out.mono ?_
        rintro z w10 ⟨rfl,he10⟩
        have HE10:=Lib.hid he10
        clear he10
        go_wp2_with fail
        go_meet
        exact⟨_,true,rfl,rfl,HKk.out,HE10.out⟩
       ·have b4:decide (cc<3)=false:=decide_eq_false a4
        have HKk:Hid (decide (0≤vv∧vv<(V:Int)∧0≤cc∧cc<3)=false):=Lib.hid (decide_eq_false fun k=>a4 k.2.2.2)
        clear a1 a2 a3 a4
        go_wp2_with fail
        refine HVc.out.mono ?_
        rintro z w10 ⟨rfl,he10⟩
        have HE10:=Lib.hid he10
        clear he10
        go_wp2_with fail
        go_meet
        exact⟨_,false,rfl,rfl,HKk.out,HE10.out⟩
      ·have b3:decide (cc ≥ 0)=false:=decide_eq_false a3
       have b3':decide (0≤cc)=false:=decide_eq_false a3
       have HKk:Hid (decide (0≤vv∧vv<(V:Int)∧0≤cc∧cc<3)=false):=Lib.hid (decide_eq_false fun k=>a3 k.2.2.1)
       clear a1 a2 a3
       go_wp2_with fail
       refine HVc.out.mono ?_
       rintro z w10 ⟨rfl,he10⟩
       have HE10:=Lib.hid he10
       clear he10
       go_wp2_with fail
       go_meet
       exact⟨_,false,rfl,rfl,HKk.out,HE10.out⟩
     ·have b2:decide (vv<(V:Int))=false:=decide_eq_false a2
      have HKk:Hid (decide (0≤vv∧vv<(V:Int)∧0≤cc∧cc<3)=false):=Lib.hid (decide_eq_false fun k=>a2 k.2.1)
      clear a1 a2
      go_wp2_with fail
      refine HVc.out.mono ?_
      rintro z w10 ⟨rfl,he10⟩
      have HE10:=Lib.hid he10
      clear he10
      go_wp2_with fail
      go_meet
      exact⟨_,false,rfl,rfl,HKk.out,HE10.out⟩
    ·have b1:decide (vv ≥ 0)=false:=decide_eq_false a1
     have b1':decide (0≤vv)=false:=decide_eq_false a1
     have HKk:Hid (decide (0≤vv∧vv<(V:Int)∧0≤cc∧cc<3)=false):=Lib.hid (decide_eq_false fun k=>a1 k.1)
     clear a1
     go_wp2_with fail
     go_meet
     exact⟨_,false,rfl,rfl,HKk.out,HEl.out⟩
   case rest=>
    obtain⟨wx,k,rfl,rfl,hk,he10⟩:=hcut
    have HE10:=Lib.hid (HE9.out.trans he10)
    have HA10:=Lib.hid (HA9.out.ev he10)
    have HKk:=Lib.hid hk
    obtain⟨y0,-,-,-⟩:=HX.out _ _ HE10.out
    have HNc:=Lib.hid (HNa.out _ _ HE10.out)
    clear hk he10 x0 x1 x2 HVc HEl
    cases k
    ·go_wp2_with fail
     refine HNc.out.mono ?_
     rintro z w11 ⟨v11,rfl,he11,ho11⟩
     obtain⟨a11,c11,rfl,-⟩:=ho11.ints.open
     rw[HNl.out] at ho11 ⊢
     have HE11:=Lib.hid (HE10.out.trans he11)
     have HA11:=Lib.hid (HA10.out.ev he11)
     have HLi:=Lib.hid (wlist_any R6 w11 he11.inv b p S r (woodR S r) D HA11.out (by rw[HWl.out];omega))
     clear he11 ho11 HNc
     go_wp2_with fail
     refine HLi.out.mono ?_
     rintro z w12 ⟨v12,rfl,he12,ho12⟩
     obtain⟨a12,c12,rfl,-⟩:=ho12.ints.open
     rw[HWl.out] at ho12 ⊢
     have HE12:=Lib.hid (HE11.out.trans he12)
     obtain⟨ao,co,ad,cd,hX,-,-,-⟩:=(HA11.out.ev he12).reads
     have hHa:=whas_any w12 b ad V cd (by have t:=(hX R6 w12 (Ev.refl he12.inv)).2.2.2.2.2;rwa [HDl.out] at t) vv cc false HKk.out
     have HPa:=Lib.hid (wparent_no w12 _ vv cc hHa)
     have HCa:=Lib.hid (wchildren_no w12 _ vv cc hHa)
     have HTa:=Lib.hid (wpath_no w12 _ vv cc hHa)
     clear he12 ho12 HLi hX hHa
     go_wp2_with fail
     refine HPa.out.mono ?_
     rintro z w13 ⟨rfl,rfl⟩
     go_wp2_with fail
     refine HCa.out.mono ?_
     rintro z w13 ⟨rfl,rfl⟩
     simp only[nilS]
     go_wp2_with fail
     refine HTa.out.mono ?_
     rintro z w13 ⟨rfl,rfl⟩
     simp only[nilS]
     go_wp2_with fail
     go_ret
     exact⟨by first|rfl|(simp;done),R6,HEa.out.trans HE12.out⟩
    ·go_wp2_with fail
     refine HNc.out.mono ?_
     rintro z w11 ⟨v11,rfl,he11,ho11⟩
     obtain⟨a11,c11,rfl,-⟩:=ho11.ints.open
     rw[HNl.out] at ho11 ⊢
     have HE11:=Lib.hid (HE10.out.trans he11)
     have HA11:=Lib.hid (HA10.out.ev he11)
     have HLi:=Lib.hid (wlist_any R6 w11 he11.inv b p S r (woodR S r) D HA11.out (by rw[HWl.out];omega))
     clear he11 ho11 HNc
     go_wp2_with fail
     refine HLi.out.mono ?_
     rintro z w12 ⟨v12,rfl,he12,ho12⟩
     obtain⟨a12,c12,rfl,-⟩:=ho12.ints.open
     rw[HWl.out] at ho12 ⊢
     have HE12:=Lib.hid (HE11.out.trans he12)
     clear he12 ho12 HLi
     go_wp2_with fail
     go_ret
     exact⟨by first|rfl|(simp;done),R6,HEa.out.trans HE12.out⟩
  | false=>
   rw[htri] at HTb
   have HWo:=Lib.hid (woodOf_no R3 w3 HE3.out.inv p S rt l HP3.out htri)
   have HMk:=Lib.hid (fun R' w' (h:Inv R' w') p' (hp':MapAt R' p' S rt (l:Int)) v=>wmake_no R' w' h p' S rt l hp' htri v)
   clear htri
   go_wp2_with fail
   refine HWo.out.mono ?_
   rintro z w4 ⟨rfl,R4,he4⟩
   have HE4:=Lib.hid (HE3.out.trans he4)
   obtain⟨x0,x1,x2,-⟩:=HX.out _ _ HE4.out
   clear he4 HWo
   go_wp2_with fail
   refine (HOf.out _ _ HE4.out).mono ?_
   rintro z w5 ⟨p5,R5,rfl,he5,hp5⟩
   have HE5:=Lib.hid (HE4.out.trans he5)
   have HM5:=Lib.hid (HMk.out R5 w5 he5.inv p5 hp5 (.slice none 0 0))
   clear he5 hp5 HOf x0 x1 x2
   go_wp2_with fail
   refine HM5.out.mono ?_
   rintro z w6 ⟨rfl,R6,he6⟩
   have HE7:=Lib.hid (HE5.out.trans he6)
   clear he6 HM5
   go_wp2_with fail
   refine (HWn.out _).mono ?_
   rintro z w8 ⟨rfl,rfl⟩
   go_wp2_with fail
   refine (HMn.out _ _).mono ?_
   rintro z w8 ⟨rfl,rfl⟩
   go_wp2_with fail
   refine (HMp.out _).mono ?_
   rintro z w8 ⟨rfl,rfl⟩
   go_wp2_with fail
   refine (HOt.out _).mono ?_
   rintro z w8 ⟨rfl,rfl⟩
   go_wp2_with fail
   refine (HLs.out _).mono ?_
   rintro z w8 ⟨rfl,rfl⟩
   simp only[nilS]
   go_wp2_with fail
   refine (HCh.out _).mono ?_
   rintro z w8 ⟨rfl,rfl⟩
   simp only[nilS]
   go_wp2_with fail
   refine (HPh.out _).mono ?_
   rintro z w8 ⟨rfl,rfl⟩
   simp only[nilS]
   go_wp2_with fail
   refine (HPr.out _).mono ?_
   rintro z w8 ⟨rfl,rfl⟩
   obtain⟨x0,x1,x2,-⟩:=HX.out _ _ HE7.out
   have HTc:=Lib.hid (HTb.out _ _ HE7.out)
   go_wp2_with fail
   refine HTc.out.mono ?_
   rintro z w9 ⟨rfl,he9⟩
   have HE9:=Lib.hid (HE7.out.trans he9)
   clear he9 x0 x1 x2 HTc
   go_wp2_with fail
   go_ret
   exact⟨by first|rfl|(simp;done),_,HEa.out.trans HE9.out⟩
end Go.Proofs.YtgphnkkdmlohlaaGreatDoor
