/- WoodCounts, the walk: it answers true. -/
import Derived.Test.YtgphnkkdmlohlaaGreatZWTP46
import Derived.Test.YtgphnkkdmlohlaaGreatZWTP38
import Derived.Test.YtgphnkkdmlohlaaGreatZWTP43
import Derived.Test.YtgphnkkdmlohlaaGreatZWTP09
namespace Go.Proofs.YtgphnkkdmlohlaaGreat
section
open Go.RowKit
set_option linter.unusedVariables false
set_option linter.unusedSimpArgs false
theorem chl_len {s:List Nat} (h:TriS s) {r:Nat} (hr:r<s.length) {d0 v:Nat} (hd:d0<s.length) (hv:vtx s d0=v) (c:Int):(((toI (orbitL s d0)).filter fun d=>nth (woodR s r) (d.toNat ^^^ 1) == c).map fun d=>nth (namesL s) (d.toNat ^^^ 1)).length=inN s r (plC (orderL s r)) c v:=by
 have hp:=plC_own h hr
 rw[List.length_map,←hv,inN_at h hr hp hd]
 have e:∀ T:List Nat,((toI T).filter fun d=>nth (woodR s r) (d.toNat ^^^ 1) == c).length=cntD (fun x=>nth (woodR s r) (x ^^^ 1) == c) T:=fun T=>by
  unfold cntD toI
  rw[List.filter_map,List.length_map]
  rfl
 rw[e,cnt_at h hd]
 refine tally_congr fun x hx=>?_
 rw[beq_iff_eq,woodR_at h hr (xor_one_lt h.even hx)]
theorem parO_corner {s:List Nat} (h:TriS s) {r:Nat} (hr:r<s.length) {x v:Nat} (hx:x<s.length) (hv:vtx s x=v) (c:Int) (h0:0≤c) (h2:c≤2):(cornZ s r x=true→parO s r c (v:Int)=-1)∧(cornZ s r x=false→0≤parO s r c (v:Int)):=by
 have hp:=plC_own h hr
 have e:nth (namesL s) x=(v:Int):=by rw[vtx_eq h.perm hx,hv]
 constructor
 ·intro k
  refine parZ_no h hr hp fun b q=>?_
  rw[←e] at q
  exact par_none h hr hp hx k h0 b q
 ·intro k
  obtain⟨b,q⟩:=par_some h hr hp hx k h0 h2
  rw[e] at q
  unfold parO
  rw[parZ_yes h hr hp h0 h2 q]
  exact (IsV.nat h hr hp (ParR.isV h hr hp q).2).1
end
section
open Go.RowKit
set_option linter.unusedVariables false
set_option linter.unusedSimpArgs false
set_option maxRecDepth 100000 in
set_option maxHeartbeats 3000000 in
theorem r15parent_any (R:Reg) (w:World) (hI:Inv R w) (v:Value) (s:List Nat) (r:Nat) (lone:Int) (hv:FreeI R w v (toI s)) (h:TriS s) (hr:r<s.length) (hn:s.length≤131073) (a1:Option Addr) (c1:Nat) (hO:FreeI R w (.slice a1 s.length c1) (woodR s r)) (u:Nat) (hu:u<(sizesL s).length) (c:Int) (hc0:0≤c) (hc3:c<3):
  Calls Tryz.prog 34 #[refV v (r:Int) lone,.slice a1 s.length c1,.int .i64 (u:Int),.int .i64 c] w (RetV R w (.int .i64 (parO s r c (u:Int)))):=by
 obtain⟨a0,c0,rfl,hv2⟩:=hv.open
 clear hv
 have hv:=hv2
 clear hv2
 rw[toI_length] at hv ⊢
 unfold refV
 have HNm:=Lib.hid (fun R' w' (hee:Ev R w R' w')=>rnames_any R' w' hee.inv _ s (hv.ev hee) h.perm (by omega))
 have HMt:=Lib.hid (fun w' (i:Nat) (hi:i<s.length)=>rmate_any w' i (by omega))
 have hOl:=woodR_len h hr
 have hpo:∀ x,ParIs s (woodR s r) u c x→x=parO s r c (u:Int):=fun x k=>parIs_eq h hr hc0 (by omega) k
 have HPo:=Lib.hid hpo
 have HT:=Lib.hid h
 have HVx:=Lib.hid (fun x (hx:x<s.length)=>vtx_eq h.perm hx)
 obtain⟨O,hOe⟩:∃ O,woodR s r=O:=⟨_,rfl⟩
 rw[hOe] at hO hOl HPo
 have HOl:=Lib.hid hOl
 have HO:=Lib.hid hO
 have HI:=Lib.hid hI
 obtain⟨N,hN⟩:∃ N,s.length=N:=⟨_,rfl⟩
 have HN:=Lib.hid hN
 have hev:N % 2=0:=by rw[←hN];exact h.even
 rw[hN] at HNm HMt hn HO HOl HVx ⊢
 have hnl:(namesL s).length=N:=by rw[namesL_length,hN]
 have HNl:=Lib.hid hnl
 obtain⟨po,hpe⟩:∃ x,parO s r c (u:Int)=x:=⟨_,rfl⟩
 rw[hpe] at HPo ⊢
 have he1:Ev R w R (w.alloc (.cells #[.slice a0 N c0,.int .i64 (r:Int),.int .i64 lone] 26)):=(Ev.refl hI).alloc _
 have HX:=Lib.hid (fun R' w' (h:Ev R (w.alloc (.cells #[.slice a0 N c0,.int .i64 (r:Int),.int .i64 lone] 26)) R' w')=>h.ref3 (hI.none_of_ge (Nat.le_refl _)))
 have HE1:=Lib.hid he1
 clear hI hv hO hOl hOe hpo hpe h hr hN hnl hu he1
 go_enter Tryz.func34,Tryz.ntmps34
 go_wp2_with fail
 refine (HNm.out _ _ HE1.out).mono ?_
 rintro e w2 ⟨v2,rfl,he2,ho2⟩
 obtain⟨a2,c2,rfl,-⟩:=ho2.ints.open
 rw[HNl.out] at ho2 ⊢
 have HE2:=Lib.hid (HE1.out.trans he2)
 have HO2:=Lib.hid ho2
 have HOw:=Lib.hid (HO.out.ev HE2.out)
 obtain⟨x0,x1,x2⟩:=HX.out _ _ he2
 clear he2 ho2 HNm HE1
 go_wp2_with fail
 go_loopg [17] N (fun g v17 wq=>∃ (d:Nat),d≤N∧N-d≤g∧v17=.int .i64 (d:Int)∧wq=w2∧∀ x,x<d→¬ (vtx s x=u∧nth O x=c))
 case atStart=>exact⟨0,Nat.zero_le _,by omega,rfl,rfl,fun x hx=>absurd hx (Nat.not_lt_zero _)⟩
 case round=>
  obtain⟨d,hd,hg,rfl,rfl,hal⟩:=hrel
  as_aux_lemma=>
   have HAl:=Lib.hid hal
   clear hal
   by_cases hdl:d<N
   ·obtain⟨g2,rfl,-,-,z1,-⟩:=HO2.out.headAt HNl.out (i:=d) hdl
    obtain⟨go,oo,rfl,hoc⟩:=HOw.out.later (i:=d) (by rw[HOl.out];exact hdl)
    have z2:=hoc _ _ (Ev.refl HE2.out.inv)
    rw[HVx.out d hdl] at z1
    have hm:=xor_one_lt hev hdl
    have HM1:=Lib.hid (HMt.out wr d hdl)
    obtain⟨y,hy⟩:∃ y,d ^^^ 1=y:=⟨_,rfl⟩
    have hy2:=hy
    rw[hy] at hm HM1
    obtain⟨_,e,-,-,z3,-⟩:=HO2.out.headAt HNl.out (i:=y) hm
    cases e
    obtain⟨dv,hdv⟩:∃ x,vtx s d=x:=⟨_,rfl⟩
    obtain⟨od,hod⟩:∃ x,nth O d=x:=⟨_,rfl⟩
    obtain⟨ny,hny⟩:∃ x,nth (namesL s) y=x:=⟨_,rfl⟩
    rw[hdv] at z1
    rw[hod] at z2
    rw[hny] at z3
    have HYs:Hid (dv=u→od=c→ny=po):=Lib.hid fun e1 e2=>HPo.out _ (.inl ⟨d,by rw[HN.out];exact hdl,hdv.trans e1,hod.trans e2,by rw[←hny,hy2]⟩)
    have HNo:Hid (¬ (dv=u∧od=c)→∀ x,x<d+1→¬ (vtx s x=u∧nth O x=c)):=Lib.hid fun n x hx=>by
     rcases (by omega:x<d∨x=d) with q|q
     ·exact HAl.out x q
     ·rw[q,hdv,hod];exact n
    clear hoc hy hy2 hdv hod hny
    by_cases h1:dv=u
    ·have hb1:((dv:Int) == (u:Int))=true:=beq_iff_eq.2 (by omega)
     by_cases h2:od=c
     ·have hb2:(od == c)=true:=beq_iff_eq.2 h2
      obtain rfl:ny=po:=HYs.out h1 h2
      clear h1 h2
      go_wp2_with fail
      refine HM1.out.mono ?_
      rintro e w3 ⟨rfl,rfl⟩
      go_wp2_with fail
      go_ret
      exact⟨rfl,R,HE2.out⟩
     ·have hb2:(od == c)=false:=beq_eq_false_iff_ne.2 h2
      have HN2:=Lib.hid (HNo.out fun q=>h2 q.2)
      clear h1 h2
      go_wp2_with fail
      go_roundg (N-(d+1))
      case measure=>omega
      case rel=>exact⟨d+1,by omega,by omega,by go_num,rfl,HN2.out⟩
    ·have hb1:((dv:Int) == (u:Int))=false:=beq_eq_false_iff_ne.2 (by omega)
     have HN2:=Lib.hid (HNo.out fun q=>h1 q.1)
     clear h1
     go_wp2_with fail
     go_roundg (N-(d+1))
     case measure=>omega
     case rel=>exact⟨d+1,by omega,by omega,by go_num,rfl,HN2.out⟩
   ·obtain rfl:N=d:=by omega
    have HFi:Hid (-1=po):=Lib.hid (HPo.out (-1) (.inr ⟨fun d hd e1 e2=>HAl.out d (by rw[←HN.out];exact hd) ⟨e1,e2⟩,rfl⟩))
    go_wp2_with fail
    go_ret
    exact⟨by rw[←HFi.out];rfl,R,HE2.out⟩
end
section
open Go.RowKit
set_option linter.unusedVariables false
set_option linter.unusedSimpArgs false
theorem path_facts {s:List Nat} (h:TriS s) {r:Nat} (hr:r<s.length) {v:Nat} (hv:v<(sizesL s).length) {c:Int} (h0:0≤c) (h2:c≤2):nth (pathO s r c (v:Int)) 0=(v:Int)∧0<(pathO s r c (v:Int)).length∧(pathO s r c (v:Int)).length≤(sizesL s).length∧(parO s r c (v:Int)=-1→(pathO s r c (v:Int)).length=1) ∧
  (parO s r c (v:Int)≠-1→2≤(pathO s r c (v:Int)).length∧nth (pathO s r c (v:Int)) 1=parO s r c (v:Int)∧nth (pathO s r c (v:Int)) ((pathO s r c (v:Int)).length-1)=cornC s r c):=by
 have hp:=plC_own h hr
 have hI:=isV_of h hr hv
 have hm:=muZ_lt h hr (c:=c) hI
 have hlen:=pathF_len h hr hp h0 h2 _ _ hm
 have hlast:=pathF_last h hr hp h0 h2 _ _ hI hm
 obtain⟨f,hf⟩:∃ f,(sizesL s).length=f+1:=⟨(sizesL s).length-1,by omega⟩
 have e:pathO s r c (v:Int)=(v:Int) :: if parO s r c (v:Int)=-1 then [] else pathF s r (plC (orderL s r)) c f (parO s r c (v:Int)):=by
  unfold pathO
  rw[hf]
  rfl
 have hL:(pathO s r c (v:Int)).length≤(sizesL s).length:=by unfold pathO;omega
 refine⟨by rw[e];rfl,by rw[e];simp,hL,fun q=>by rw[e,if_pos q];rfl,fun q=>?_⟩
 have kp:=parZ_par h hr hp h0 h2 q
 have l:=ParR.less h hr hp h0 h2 kp
 have e2:∃ t,pathF s r (plC (orderL s r)) c f (parO s r c (v:Int))=parO s r c (v:Int) :: t:=by
  obtain⟨g,hg⟩:∃ g,f=g+1:=⟨f-1,by omega⟩
  rw[hg]
  exact⟨_,rfl⟩
 obtain⟨t,ht⟩:=e2
 rw[if_neg q,ht] at e
 refine⟨by rw[e];simp,by rw[e];rfl,?_⟩
 have hl2:(pathO s r c (v:Int)).getLast?=some (cornC s r c):=by
  unfold pathO
  rw[hlast]
  exact congrArg some (if_neg q)
 rw[List.getLast?_eq_getElem?] at hl2
 unfold nth
 rw[List.getD_eq_getElem?_getD,hl2]
 rfl
theorem chl_par {s:List Nat} (h:TriS s) {r:Nat} (hr:r<s.length) {d0 v:Nat} (hd:d0<s.length) (hv:vtx s d0=v) {c:Int} (h0:0≤c) (h2:c≤2) {i:Nat} (hi:i<(((toI (orbitL s d0)).filter fun d=>nth (woodR s r) (d.toNat ^^^ 1) == c).map fun d=>nth (namesL s) (d.toNat ^^^ 1)).length):
  ∃ u:Nat,nth (((toI (orbitL s d0)).filter fun d=>nth (woodR s r) (d.toNat ^^^ 1) == c).map fun d=>nth (namesL s) (d.toNat ^^^ 1)) i=(u:Int)∧u<(sizesL s).length∧parO s r c (u:Int)=(v:Int):=by
 have hp:=plC_own h hr
 have hm:=nth_mem hi
 obtain⟨d,hd2,e⟩:=List.mem_map.1 hm
 obtain⟨hd3,hd4⟩:=List.mem_filter.1 hd2
 obtain⟨x,hx,ex⟩:=List.mem_map.1 (show d∈(orbitL s d0).map fun (x:Nat)=>(x:Int) from hd3)
 subst ex
 rw[Int.toNat_natCast] at e hd4
 obtain⟨xl,xn⟩:=(names_orbit h.perm hd).1 hx
 have ym:=xor_one_lt h.even xl
 rw[beq_iff_eq,woodR_at h hr ym] at hd4
 refine⟨vtx s (x ^^^ 1),by rw[←e,vtx_eq h.perm ym],vtx_lt h.perm ym,?_⟩
 exact parZ_yes h hr hp h0 h2 ⟨x ^^^ 1,ym,vtx_eq h.perm ym,hd4,by rw[xor_one_one,xn,vtx_eq h.perm hd,hv]⟩
theorem cornC_at {s:List Nat} {r k:Nat} (hk:k<3):nth [nth (namesL s) (at' (phiL s) (at' (phiL s) r)),nth (namesL s) r,nth (namesL s) (at' (phiL s) r)] k=cornC s r (k:Int):=by
 match k,hk with
 | 0,_=>rfl
 | 1,_=>rfl
 | 2,_=>rfl
set_option maxRecDepth 100000 in
set_option maxHeartbeats 6000000 in
theorem woodTrees_walk (w:World) (n root:Nat) (hn:n≤255) (hr:root≤255) (v:Value) (bs:List Nat) (hv:FreeB noReg w v bs):
  Calls Tryz.prog 6 #[.int .u8 (n:Int),v,.int .u8 (root:Int)] w (RetTrue noReg w):=by
 have HA:=Lib.hid (awake15_any noReg w (Inv.noReg w))
 have HTr:=Lib.hid (fun R' w' (h:Ev noReg w R' w')=>r14tri_any R' w' h.inv (n % 14) (by omega) v bs (hv.ev h) root hr)
 obtain⟨q,hq⟩:∃ q,n % 14=q:=⟨_,rfl⟩
 have hq16:q<14:=by omega
 have hqm:(n:Int) % 14=(q:Int):=by omega
 rw[hq] at HTr
 obtain⟨a0,c0,rfl,_,_⟩:=hv
 clear hq
 go_enter Tryz.func6,Tryz.ntmps6
 go_wp2_with fail
 refine HA.out.mono ?_
 rintro e w1 ⟨rfl,R1,he1⟩
 have HE1:=Lib.hid he1
 have HTr:=Lib.hid (HTr.out _ _ he1)
 clear he1 HA
 go_wp2_with fail
 refine HTr.out.mono ?_
 rintro e w2 ⟨s,r,hT,hsl,hrt,a,c,rfl,he2,ho2⟩
 as_aux_lemma=>
  unfold refV
  have hrs:r<s.length:=by omega
  have hok:MapOk s (r:Int) 0:=by unfold MapOk;have:=hT.even;omega
  have hea:=he2.alloc (.cells #[.slice a s.length c,.int .i64 (r:Int),.int .i64 0] 26)
  have hoa:=ho2.alloc (.cells #[.slice a s.length c,.int .i64 (r:Int),.int .i64 0] 26)
  have HOf:=Lib.hid (of15_any R1 _ hea.inv _ s (r:Int) 0 hoa.free hT.perm hok)
  have HOg:=Lib.hid (of15_any R1 _ he2.inv _ s (r:Int) 0 ho2.free hT.perm hok)
  unfold refV at HOf HOg
  have HEa:=Lib.hid (HE1.out.trans hea)
  have HEg:=Lib.hid (HE1.out.trans he2)
  have HOa:=Lib.hid hoa.free
  have HO2:=Lib.hid ho2.free
  have HT:=Lib.hid hT
  have HR:=Lib.hid hrs
  have HVm:=Lib.hid (sizesL_le hT.perm)
  have hbx:=heap_alloc_new w2 (.cells #[.slice a s.length c,.int .i64 (r:Int),.int .i64 0] 26)
  have HX:=Lib.hid (fun R' w' (h:Ev R1 (w2.alloc (.cells #[.slice a s.length c,.int .i64 (r:Int),.int .i64 0] 26)) R' w')=>boxC_cells (h.boxC3 hbx (he2.inv.none_of_ge (Nat.le_refl _))).1)
  obtain⟨N,hN⟩:∃ N,s.length=N:=⟨_,rfl⟩
  have hN1000:N≤1000:=by omega
  have HN:=Lib.hid hN
  rw[hN] at HOf HEa HX HOa HOg HO2 ⊢
  clear he2 ho2 HTr hT hok hea hoa hsl hrt hrs hN HE1 hbx
  go_wp2_with fail
  obtain⟨bx,hbe⟩:∃ x,w2.heap.size=x:=⟨_,rfl⟩
  obtain⟨wa,hwa⟩:∃ x,w2.alloc (.cells #[.slice a N c,.int .i64 (r:Int),.int .i64 0] 26)=x:=⟨_,rfl⟩
  rw[hbe,hwa] at HX
  rw[hwa] at HOf HEa HOa
  rw[hwa,hbe]
  clear hwa hbe HOg HO2 HEg
  refine HOf.out.mono ?_
  rintro e w3 ⟨p,R3,rfl,he3,hp3⟩
  have HE3:=Lib.hid he3
  have HWo:=Lib.hid (woodOf_tri R3 w3 he3.inv p s r hp3 HT.out HR.out)
  have HP3:=Lib.hid hp3
  clear he3 hp3 HOf
  go_wp2_with fail
  refine HWo.out.mono ?_
  rintro e w4 ⟨b4,R4,D,rfl,he4,hD,hA⟩
  have HE4:=Lib.hid (HE3.out.trans he4)
  have HP4:=Lib.hid (he4.map HP3.out)
  have HDs:=Lib.hid hD
  have HA4:=Lib.hid hA
  clear he4 hD hA HWo HE3 HP3
  obtain⟨x0,x1,x2,-⟩:=HX.out _ _ HE4.out
  have hRc:=r14corners_any R4 w4 HE4.out.inv (.slice a N c) s r 0 (HOa.out.ev HE4.out) HT.out.perm HT.out.even (by rw[HN.out];omega) HR.out
  unfold refV at hRc
  have HRc:=Lib.hid hRc
  clear hRc
  go_wp2_with fail
  refine HRc.out.mono ?_
  rintro e w5 ⟨v5,rfl,he5,ho5⟩
  have hC3:(cor3 s r).length=3:=rfl
  obtain⟨a5,c5,rfl,-⟩:=ho5.ints.open
  rw[hC3] at ho5 ⊢
  have HE5:=Lib.hid (HE4.out.trans he5)
  have HO5:=Lib.hid ho5
  have HP5:=Lib.hid (he5.map HP4.out)
  have HA5:=Lib.hid (HA4.out.ev he5)
  clear he5 ho5 HRc HP4 HA4 HE4 hC3
  as_aux_lemma=>
   obtain⟨V,hV⟩:∃ V,(sizesL s).length=V:=⟨_,rfl⟩
   have hV3:3≤V:=by rw[←hV];exact HT.out.big
   have hVN:V≤1000:=by have:=HVm.out;rw[HN.out,hV] at this;omega
   have HV:=Lib.hid hV
   clear hV
   obtain⟨g5,rfl,-,-,-,-⟩:=HO5.out.headAt rfl (i:=0) (by omega)
   have hYc:∀ R' w',Ev R4 w5 R' w'→w'.cell? ⟨g5,0,none⟩=some (.int .i64 (nth (namesL s) r))∧w'.cell? ⟨g5,1,none⟩=some (.int .i64 (nth (namesL s) (at' (phiL s) r)))∧w'.cell? ⟨g5,2,none⟩=some (.int .i64 (nth (namesL s) (at' (phiL s) (at' (phiL s) r)))):=fun R' w' he=>by
    obtain⟨_,e,-,-,u0,-⟩:=(HO5.out.ev he).headAt rfl (i:=0) (by omega)
    cases e
    obtain⟨_,e,-,-,u1,-⟩:=(HO5.out.ev he).headAt rfl (i:=1) (by omega)
    cases e
    obtain⟨_,e,-,-,u2,-⟩:=(HO5.out.ev he).headAt rfl (i:=2) (by omega)
    cases e
    exact⟨u0,u1,u2⟩
   have hcat:=fun k (hk:k<3)=>cornC_at (s:=s) (r:=r) hk
   have hcmm:=fun x=>cornZ_mem (s:=s) (r:=r) (x:=x)
   obtain⟨e0,he0⟩:∃ c0,nth (namesL s) r=c0:=⟨_,rfl⟩
   obtain⟨e1,he1⟩:∃ c0,nth (namesL s) (at' (phiL s) r)=c0:=⟨_,rfl⟩
   obtain⟨e2,he2⟩:∃ c0,nth (namesL s) (at' (phiL s) (at' (phiL s) r))=c0:=⟨_,rfl⟩
   rw[he0,he1,he2] at hcat hYc
   simp only[he0,he1,he2] at hcmm
   have HCat:=Lib.hid hcat
   have HCmm:=Lib.hid hcmm
   have HYc:=Lib.hid hYc
   have HL3:=Lib.hid (OwnI.new3 (R:=R4) (Nat.le_refl w5.heap.size) (HE5.out.inv.none_of_ge (Nat.le_refl _)) e2 e0 e1)
   have HEr:=Lib.hid ((Ev.refl HE5.out.inv).alloc (.cells #[.int .i64 e2,.int .i64 e0,.int .i64 e1] 3)).drew
   clear he0 he1 he2 hcat hcmm hYc
   go_wp2_with fail
   go_cut [11] (fun s11 wx=>∃ (wn:World) (gc:Nat),wn=wx∧s11=.slice (some ⟨gc,0,none⟩) 3 3∧Ev R4 w5 R4 wn∧OwnI R4 w5.heap.size 3 wn (.slice (some ⟨gc,0,none⟩) 3 3) [e2,e0,e1])
   case first=>
    refine wp_region_held_drew (S:=fun W=>W.cell? ⟨g5,0,none⟩=some (.int .i64 e0)∧W.cell? ⟨g5,1,none⟩=some (.int .i64 e1)∧W.cell? ⟨g5,2,none⟩=some (.int .i64 e2)) (by kernel_rfl) (HYc.out _ _ (Ev.refl HE5.out.inv).drew) (fun hHeld=>?_)
    refine tk 0 (v:=?ft1) ?gt1 ?_
    case gt1=>(intro w' ⟨s0,s1,s2⟩;go_simp;try with_reducible rfl)
    try simp only[Act.put,rd]
    refine tk 1 (v:=?ft2) ?gt2 ?_
    case gt2=>(intro w' ⟨s0,s1,s2⟩;go_simp;try with_reducible rfl)
    try simp only[Act.put,rd]
    refine tk 2 (v:=?ft3) ?gt3 ?_
    case gt3=>(intro w' ⟨s0,s1,s2⟩;go_simp;try with_reducible rfl)
    try simp only[Act.put,rd]
    refine tk 3 (v:=?ft4) ?gt4 ?_
    case gt4=>(intro w' ⟨s0,s1,s2⟩;go_simp;try with_reducible rfl)
    try simp only[Act.put,rd]
    refine tk 4 (v:=?ft5) ?gt5 ?_
    case gt5=>(intro w' ⟨s0,s1,s2⟩;go_simp;try with_reducible rfl)
    try simp only[Act.put,rd]
    refine tk 5 (v:=?ft6) ?gt6 ?_
    case gt6=>(intro w' ⟨s0,s1,s2⟩;go_simp;try with_reducible rfl)
    try simp only[Act.put,rd]
    refine tk 6 (v:=?ft7) ?gt7 ?_
    case gt7=>(intro w' ⟨s0,s1,s2⟩;go_simp;try with_reducible rfl)
    try simp only[Act.put,rd]
    refine tk 7 (v:=?ft8) ?gt8 ?_
    case gt8=>(intro w' ⟨s0,s1,s2⟩;go_simp;try with_reducible rfl)
    try simp only[Act.put,rd]
    refine tk 8 (v:=?ft9) ?gt9 ?_
    case gt9=>(intro w' ⟨s0,s1,s2⟩;go_simp;try with_reducible rfl)
    try simp only[Act.put,rd]
    refine nx 9 fun K hK=>?_
    go_simp
    refine hK.out _ _ (HYc.out _ _ HEr.out) (fun hHeld2=>?_)
    clear hHeld
    refine tk 10 (v:=?ft10) ?gt10 ?_
    case gt10=>(intro w' ⟨s0,s1,s2⟩;go_simp;try with_reducible rfl)
    try simp only[Act.put,rd]
    refine wpAnyH_done (by kernel_rfl) ?_ _
    go_wp2_with fail
    go_meet
    exact⟨_,w5.heap.size,rfl,rfl,HEr.out,HL3.out⟩
   case rest=>
    obtain⟨w6,gc,rfl,rfl,he6,hoc⟩:=hcut
    as_aux_lemma=>
     have HE6:=Lib.hid (HE5.out.trans he6)
     have HOc:=Lib.hid hoc
     have HA6:=Lib.hid (HA5.out.ev he6)
     have HP6:=Lib.hid (he6.map HP5.out)
     clear he6 hoc HO5 HL3 HEr HYc HE5 HA5 HP5
     have hVt:=rvertices_any R4 w6 HE6.out.inv (.slice a N c) s (r:Int) 0 (HOa.out.ev HE6.out) HT.out.perm (by rw[HN.out];omega) (by omega) (by omega)
     unfold refV at hVt
     rw[HV.out,Int.add_zero] at hVt
     have HVt:=Lib.hid hVt
     clear hVt
     obtain⟨x0,x1,x2,-⟩:=HX.out _ _ HE6.out
     go_wp2_with fail
     refine HVt.out.mono ?_
     rintro e w7 ⟨rfl,he7⟩
     have HE7:=Lib.hid (HE6.out.trans he7)
     have HOc:=Lib.hid (HOc.out.ev he7)
     have HA7:=Lib.hid (HA6.out.ev he7)
     have HP7:=Lib.hid (he7.map HP6.out)
     clear he7 HVt HE6 HA6 HP6 x0 x1 x2
     have HXs:=Lib.hid (fun R' w' (he:Ev R4 w7 R' w')=>HX.out R' w' (HE7.out.trans he))
     have HOs:=Lib.hid (fun R' w' (he:Ev R4 w7 R' w')=>HOa.out.ev (HE7.out.trans he))
     have HFin:=Lib.hid (HEa.out.trans HE7.out)
     have HI7:=Lib.hid HE7.out.inv
     clear HX HOa HEa HE7
     go_wp2_with fail
     go_loopg [50] 3 (fun g v50 wq=>∃ (k:Nat) (R8:Reg),k≤3∧3-k≤g∧v50=.int .i64 (k:Int)∧Ev R4 w7 R8 wq)
     case atStart=>exact⟨0,R4,Nat.zero_le _,by omega,rfl,Ev.refl HI7.out⟩
     case round=>
      obtain⟨k,R8,hk3,hgk,rfl,he8⟩:=hrel
      as_aux_lemma=>
       have HE8:=Lib.hid he8
       clear he8
       by_cases hkl:k<3
       ·have hkb:decide ((k:Int)<3)=true:=decide_eq_true (by omega)
        go_wp2_with fail
        go_loopg [14,54] V (fun g v14 v54 wq=>∃ (v ed:Nat) (R9:Reg),v≤V∧V-v≤g∧v14=.int .i64 (ed:Int)∧v54=.int .i64 (v:Int)∧Ev R4 w7 R9 wq∧ed=sumQ (inN s r (plC (orderL s r)) (k:Int)) v)
        case atStart=>exact⟨0,0,R8,Nat.zero_le _,by omega,rfl,rfl,HE8.out,rfl⟩
        case round=>
         obtain⟨v,ed,R9,hvV,hgv,rfl,rfl,he9,hed⟩:=hrel
         as_aux_lemma=>
          have HE9:=Lib.hid he9
          have HEd:=Lib.hid hed
          have hedb:ed≤1000*1001:=by
           rw[hed]
           have h1:=sumQ_le (inN s r (plC (orderL s r)) (k:Int)) 1000 (fun i=>Nat.le_trans (tally_le _ _) (by rw[HN.out];exact hN1000)) v
           have:v*1000≤1000*1000:=Nat.mul_le_mul_right _ (by omega)
           omega
          clear he9 hed HE8
          by_cases hvl:v<V
          ·obtain⟨x,hx,hxv⟩:=HT.out.named (v:=v) (by rw[HV.out];exact hvl)
           have hvx:vtx s x=v:=by have:=vtx_eq HT.out.perm hx;omega
           obtain⟨kc,hkc⟩:∃ kc,cornZ s r x=kc:=⟨_,rfl⟩
           have hcm:=HCmm.out x
           rw[hxv,hkc] at hcm
           have hpr:=parO_corner HT.out HR.out hx hvx (k:Int) (by omega) (by omega)
           rw[hkc] at hpr
           have hpf:=path_facts HT.out HR.out (v:=v) (by rw[HV.out];exact hvl) (c:=(k:Int)) (by omega) (by omega)
           have hcc:=HCat.out k hkl
           rw[HV.out] at hpf
           have HPa:=Lib.hid (fun R' w' (he:Ev R4 w7 R' w') (u:Nat) (hu:u<V)=>wparent_tri R' w' he.inv p s r (he.map HP7.out) HT.out HR.out b4 D (HA7.out.ev he) HDs.out u (by rw[HV.out];exact hu) (k:Int) (by omega) (by omega))
           have HPa1:=Lib.hid (fun R' w' (he:Ev R4 w7 R' w')=>HPa.out R' w' he v hvl)
           have HLi:=Lib.hid (fun R' w' (he:Ev R4 w7 R' w')=>wlist_any R' w' he.inv b4 p s r (woodR s r) D (HA7.out.ev he) (by rw[woodR_len HT.out HR.out,HN.out];omega))
           have hsN:s.length≤131073:=by rw[HN.out];omega
           have hvs:v<(sizesL s).length:=by rw[HV.out];exact hvl
           have hRp:∀ R' w',Ev R4 w7 R' w'→∀ a1 c1,FreeI R' w' (.slice a1 N c1) (woodR s r)→Calls Tryz.prog 34 #[.agg #[.slice a N c,.int .i64 (r:Int),.int .i64 0],.slice a1 N c1,.int .i64 (v:Int),.int .i64 (k:Int)] w' (RetV R' w' (.int .i64 (parO s r (k:Int) (v:Int)))):=fun R' w' he a1 c1 hO=>by
            have h1:FreeI R' w' (.slice a1 s.length c1) (woodR s r):=by rw[HN.out];exact hO
            have this:=r15parent_any R' w' he.inv (.slice a N c) s r 0 (HOs.out R' w' he) HT.out HR.out hsN a1 c1 h1 v hvs (k:Int) (Int.natCast_nonneg k) (by omega)
            unfold refV at this
            rw[HN.out] at this
            exact this
           have HRp:=Lib.hid hRp
           clear hRp hsN
           have HPt:=Lib.hid (fun R' w' (he:Ev R4 w7 R' w')=>wpath_tri R' w' he.inv p s r (he.map HP7.out) HT.out HR.out b4 D (HA7.out.ev he) HDs.out v (by rw[HV.out];exact hvl) (k:Int) (by omega) (by omega))
           have HCh:=Lib.hid (fun R' w' (he:Ev R4 w7 R' w')=>wchildren_any R' w' he.inv p s r (he.map HP7.out) HT.out b4 (woodR s r) D (HA7.out.ev he) (woodR_len HT.out HR.out) HDs.out v (by rw[HV.out];exact hvl) (k:Int) (by omega) (by omega))
           have hCt:∀ R' w',Ev R4 w7 R' w'→Calls Tryz.prog 32 #[.slice (some ⟨gc,0,none⟩) 3 3,.int .i64 (v:Int)] w' fun e w''=>w''=w'∧e=.returned (.bool kc):=fun R' w' he=>by
            have h1:Ints w' (.slice (some ⟨gc,0,none⟩) 3 3) [e2,e0,e1]:=(HOc.out.ev he).ints
            have this:=contains_any w' (some ⟨gc,0,none⟩) 3 3 [e2,e0,e1] (v:Int) h1 (by omega)
            rw[hcm] at this
            exact this
           have HCt:=Lib.hid hCt
           clear hCt
           have HWl:=Lib.hid (show (woodR s r).length=N by rw[woodR_len HT.out HR.out,HN.out])
           obtain⟨pv,hpv⟩:∃ x,parO s r (k:Int) (v:Int)=x:=⟨_,rfl⟩
           obtain⟨T,hTe⟩:∃ x,pathO s r (k:Int) (v:Int)=x:=⟨_,rfl⟩
           obtain⟨ec,hec⟩:∃ x,cornC s r (k:Int)=x:=⟨_,rfl⟩
           obtain⟨O,hOe⟩:∃ x,woodR s r=x:=⟨_,rfl⟩
           simp only[hpv] at HPa1 HRp hpr hpf
           simp only[hTe] at HPt hpf
           rw[hec] at hpf hcc
           simp only[hOe] at HLi HRp
           rw[hOe] at HWl
           obtain⟨Lt,hLt⟩:∃ x,T.length=x:=⟨_,rfl⟩
           rw[hLt] at hpf
           have HPf:=Lib.hid hpf
           have HLt:=Lib.hid hLt
           have HPr:=Lib.hid hpr
           have HCc:=Lib.hid hcc
           have HDc:=Lib.hid (fun d0 (h1:d0<s.length) (h2:vtx s d0=v)=>chl_len HT.out HR.out h1 h2 (k:Int))
           have HDp:=Lib.hid (fun d0 (h1:d0<s.length) (h2:vtx s d0=v) i hi=>chl_par HT.out HR.out h1 h2 (c:=(k:Int)) (by omega) (by omega) (i:=i) hi)
           rw[hOe] at HCh
           simp only[hOe] at HDc HDp
           clear hx hxv hvx hkc hcm hpr hpf hcc hpv hTe hec hOe hLt
           go_wp2_with fail
           refine (HPa1.out _ _ HE9.out).mono ?_
           rintro e w10 ⟨rfl,R10,he10⟩
           have HE10:=Lib.hid (HE9.out.trans he10)
           clear he10 HE9 HPa1
           go_wp2_with fail
           go_cut [76] (fun s76 wx=>∃ (wn:World) (R11:Reg),wn=wx∧s76=.bool false∧Ev R4 w7 R11 wn)
           case first=>
            have HEa:=Lib.hid HE10.out.drew
            obtain⟨x0,x1,x2,-⟩:=HXs.out _ _ HEa.out
            refine wp_region_held_drew (S:=fun W=>W.cell? ⟨bx,0,none⟩=some (.slice a N c)∧W.cell? ⟨bx,1,none⟩=some (.int .i64 (r:Int))∧W.cell? ⟨bx,2,none⟩=some (.int .i64 0)) (by kernel_rfl) ⟨x0,x1,x2⟩ (fun hHeld=>?_)
            refine tk 0 (v:=?ft11) ?gt11 ?_
            case gt11=>(intro w' ⟨s0,s1,s2⟩;go_simp;try with_reducible rfl)
            try simp only[Act.put,rd]
            refine tk 1 (v:=?ft12) ?gt12 ?_
            case gt12=>(intro w' ⟨s0,s1,s2⟩;go_simp;try with_reducible rfl)
            try simp only[Act.put,rd]
            refine tk 2 (v:=?ft13) ?gt13 ?_
            case gt13=>(intro w' ⟨s0,s1,s2⟩;go_simp;try with_reducible rfl)
            try simp only[Act.put,rd]
            refine tk 4 (v:=?ft14) ?gt14 ?_
            case gt14=>(intro w' ⟨s0,s1,s2⟩;go_simp;try with_reducible rfl)
            try simp only[Act.put,rd]
            refine tk 5 (v:=?ft15) ?gt15 ?_
            case gt15=>(intro w' ⟨s0,s1,s2⟩;go_simp;try with_reducible rfl)
            try simp only[Act.put,rd]
            refine nx 3 fun K hK=>?_
            go_simp
            refine (HLi.out _ _ HEa.out).mono ?_
            rintro e w11 ⟨v11,rfl,he11,ho11⟩
            obtain⟨a11,c11,rfl,-⟩:=ho11.ints.open
            rw[HWl.out] at ho11 ⊢
            have HEb:=Lib.hid (HEa.out.trans he11)
            have HF:=Lib.hid ho11.free
            clear he11 ho11 x0 x1 x2
            obtain⟨x0,x1,x2,-⟩:=HXs.out _ _ HEb.out
            go_simp
            refine hK.out _ _ ⟨x0,x1,x2⟩ (fun hHeld2=>?_)
            clear hHeld
            refine nx 6 fun K hK=>?_
            go_simp
            refine (HRp.out _ _ HEb.out _ _ HF.out).mono ?_
            rintro e w12 ⟨rfl,R12,he12⟩
            have HEc:=Lib.hid (HEb.out.trans he12)
            clear he12 x0 x1 x2
            obtain⟨x0,x1,x2,-⟩:=HXs.out _ _ HEc.out
            go_simp
            refine hK.out _ _ ⟨x0,x1,x2⟩ (fun hHeld3=>?_)
            clear hHeld2
            have hpl:decide (pv<0)=kc:=by
             have:=HPr.out
             cases kc
             ·exact decide_eq_false (by have:=this.2 rfl;omega)
             ·exact decide_eq_true (by have:=this.1 rfl;omega)
            refine tk 7 (v:=(.bool false)) ?gt16 ?_
            case gt16=>(intro w' ⟨s0,s1,s2⟩;go_simp;try with_reducible rfl)
            try simp only[Act.put,rd]
            refine tk 8 (v:=?ft17) ?gt17 ?_
            case gt17=>(intro w' ⟨s0,s1,s2⟩;go_simp;try with_reducible rfl)
            try simp only[Act.put,rd]
            refine tk 9 (v:=?ft18) ?gt18 ?_
            case gt18=>(intro w' ⟨s0,s1,s2⟩;go_simp;try with_reducible rfl)
            try simp only[Act.put,rd]
            refine tk 10 (v:=(.bool kc)) ?gt19 ?_
            case gt19=>(intro w' ⟨s0,s1,s2⟩;go_simp;try with_reducible rfl)
            try simp only[Act.put,rd]
            refine tk 11 (v:=?ft20) ?gt20 ?_
            case gt20=>(intro w' ⟨s0,s1,s2⟩;go_simp;try with_reducible rfl)
            try simp only[Act.put,rd]
            refine tk 12 (v:=?ft21) ?gt21 ?_
            case gt21=>(intro w' ⟨s0,s1,s2⟩;go_simp;try with_reducible rfl)
            try simp only[Act.put,rd]
            refine nx 13 fun K hK=>?_
            go_simp
            refine (HCt.out _ _ HEc.out).mono ?_
            rintro e w13 ⟨rfl,rfl⟩
            go_simp
            refine hK.out _ _ ⟨x0,x1,x2⟩ (fun hHeld4=>?_)
            clear hHeld3
            refine tk 14 (v:=(.bool false)) ?gt22 ?_
            case gt22=>(intro w' ⟨s0,s1,s2⟩;go_simp;try with_reducible rfl)
            try simp only[Act.put,rd]
            refine tk 15 (v:=(.bool false)) ?gt23 ?_
            case gt23=>(intro w' ⟨s0,s1,s2⟩;go_simp;try with_reducible rfl)
            try simp only[Act.put,rd]
            refine wpAnyH_done (by kernel_rfl) ?_ _
            go_wp2_with fail
            go_meet
            exact⟨_,R12,rfl,rfl,HEc.out⟩
           case rest=>
            obtain⟨w11,R11,rfl,rfl,he11⟩:=hcut
            as_aux_lemma=>
             have HE11:=Lib.hid he11
             clear he11 HE10 HRp HLi HCt
             go_wp2_with fail
             refine (HPt.out _ _ HE11.out).mono ?_
             rintro e w12 ⟨v12,R12,rfl,he12,ho12⟩
             obtain⟨a12,c12,rfl,-⟩:=ho12.ints.open
             rw[HLt.out] at ho12 ⊢
             have HE12:=Lib.hid (HE11.out.trans he12)
             have HO12:=Lib.hid ho12
             have HIv:=Lib.hid he12.inv
             clear he12 ho12 HPt HE11
             go_wp2_with fail
             go_cut [124] (fun s124 wx=>∃ (wn:World),wn=wx∧s124=.bool false∧Ev R4 w7 R12 wn)
             case first=>
              obtain⟨f0,f1,f2,f3,f4⟩:=HPf.out
              have HEd2:=Lib.hid HE12.out.drew
              have HO13:=Lib.hid HO12.out.drew
              have HC13:=Lib.hid (HOc.out.ev HEd2.out)
              obtain⟨gp,rfl,-,-,z0,-⟩:=HO13.out.headAt HLt.out (i:=0) f1
              rw[f0] at z0
              obtain⟨_,e,-,-,y0,-⟩:=HC13.out.headAt rfl (i:=k) hkl
              cases e
              rw[HCc.out] at y0
              have hb0:((v:Int) != (v:Int))=false:=by simp
              have hb1:decide ((Lt:Int) > (V:Int))=false:=decide_eq_false (by omega)
              have hb1':decide ((V:Int)<(Lt:Int))=false:=decide_eq_false (by omega)
              cases kc
              ·skip
               have hp0:0≤pv:=HPr.out.2 rfl
               obtain⟨g0,g1,g2⟩:=f4 (by omega)
               obtain⟨_,e,-,-,z1,-⟩:=HO13.out.headAt HLt.out (i:=1) (by omega)
               cases e
               obtain⟨_,e,-,-,z2,-⟩:=HO13.out.headAt HLt.out (i:=Lt-1) (by omega)
               cases e
               rw[g1] at z1
               rw[g2] at z2
               have hw1:IntKind.i64.wrap ((Lt:Int)-1)=((Lt-1:Nat):Int):=by rw[show (Lt:Int)-1=((Lt-1:Nat):Int) by omega];exact IntWalk.i64_in _ (by omega)
               obtain⟨Lm,hLm⟩:∃ x,Lt-1=x:=⟨_,rfl⟩
               rw[hLm] at hw1 z2
               have hLmb:Lm<Lt:=by omega
               have hb2:decide (0≤pv)=true:=decide_eq_true hp0
               have hb3:decide (pv<0)=false:=decide_eq_false (by omega)
               have g3:1<Lt:=by omega
               have g4:(1:Int)<(Lt:Int):=by omega
               have g9:(k:Int)<3:=by omega
               have g5':(Lm:Int)<(Lt:Int):=by omega
               have g6:0<Lt:=f1
               have g7:(0:Int)<(Lt:Int):=by omega
               have g8:(Lt:Int)≤(V:Int):=by omega
               clear f0 f3 f4 g0 g1 g2 hLm hp0
               refine wp_region_held_drew (S:=fun W=>W.cell? ⟨gp,0,none⟩=some (.int .i64 (v:Int))∧W.cell? ⟨gp,1,none⟩=some (.int .i64 pv)∧W.cell? ⟨gp,Lm,none⟩=some (.int .i64 ec)∧W.cell? ⟨gc,k,none⟩=some (.int .i64 ec)) (by kernel_rfl) ⟨z0,z1,z2,y0⟩ (fun hHeld=>?_)
               refine tk 0 (v:=?ft24) ?gt24 ?_
               case gt24=>(intro w' ⟨s0,s1,s2,s3⟩;go_simp;try with_reducible rfl)
               try simp only[Act.put,rd]
               refine tk 1 (v:=?ft25) ?gt25 ?_
               case gt25=>(intro w' ⟨s0,s1,s2,s3⟩;go_simp;try with_reducible rfl)
               try simp only[Act.put,rd]
               refine tk 2 (v:=?ft26) ?gt26 ?_
               case gt26=>(intro w' ⟨s0,s1,s2,s3⟩;go_simp;try with_reducible rfl)
               try simp only[Act.put,rd]
               refine tk 3 (v:=?ft27) ?gt27 ?_
               case gt27=>(intro w' ⟨s0,s1,s2,s3⟩;go_simp;try with_reducible rfl)
               try simp only[Act.put,rd]
               refine tk 4 (v:=(.bool false)) ?gt28 ?_
               case gt28=>(intro w' ⟨s0,s1,s2,s3⟩;go_simp;try with_reducible rfl)
               try simp only[Act.put,rd]
               refine tk 5 (v:=?ft29) ?gt29 ?_
               case gt29=>(intro w' ⟨s0,s1,s2,s3⟩;go_simp;try with_reducible rfl)
               try simp only[Act.put,rd]
               refine tk 6 (v:=?ft30) ?gt30 ?_
               case gt30=>(intro w' ⟨s0,s1,s2,s3⟩;go_simp;try with_reducible rfl)
               try simp only[Act.put,rd]
               refine tk 7 (v:=?ft31) ?gt31 ?_
               case gt31=>(intro w' ⟨s0,s1,s2,s3⟩;go_simp;try with_reducible rfl)
               try simp only[Act.put,rd]
               refine tk 8 (v:=?ft32) ?gt32 ?_
               case gt32=>(intro w' ⟨s0,s1,s2,s3⟩;go_simp;try with_reducible rfl)
               try simp only[Act.put,rd]
               refine tk 9 (v:=(.bool false)) ?gt33 ?_
               case gt33=>(intro w' ⟨s0,s1,s2,s3⟩;go_simp;try with_reducible rfl)
               try simp only[Act.put,rd]
               refine tk 10 (v:=(.bool false)) ?gt34 ?_
               case gt34=>(intro w' ⟨s0,s1,s2,s3⟩;go_simp;try with_reducible rfl)
               try simp only[Act.put,rd]
               refine tk 11 (v:=?ft35) ?gt35 ?_
               case gt35=>(intro w' ⟨s0,s1,s2,s3⟩;go_simp;try with_reducible rfl)
               try simp only[Act.put,rd]
               refine tk 12 (v:=?ft36) ?gt36 ?_
               case gt36=>(intro w' ⟨s0,s1,s2,s3⟩;go_simp;try with_reducible rfl)
               try simp only[Act.put,rd]
               refine tk 13 (v:=(.bool true)) ?gt37 ?_
               case gt37=>(intro w' ⟨s0,s1,s2,s3⟩;go_simp;try with_reducible rfl)
               try simp only[Act.put,rd]
               refine tk 14 (v:=?ft38) ?gt38 ?_
               case gt38=>(intro w' ⟨s0,s1,s2,s3⟩;go_simp;try with_reducible rfl)
               try simp only[Act.put,rd]
               refine tk 15 (v:=?ft39) ?gt39 ?_
               case gt39=>(intro w' ⟨s0,s1,s2,s3⟩;go_simp;try with_reducible rfl)
               try simp only[Act.put,rd]
               refine tk 16 (v:=?ft40) ?gt40 ?_
               case gt40=>(intro w' ⟨s0,s1,s2,s3⟩;go_simp;try with_reducible rfl)
               try simp only[Act.put,rd]
               refine tk 17 (v:=?ft41) ?gt41 ?_
               case gt41=>(intro w' ⟨s0,s1,s2,s3⟩;go_simp;try with_reducible rfl)
               try simp only[Act.put,rd]
               refine tk 18 (v:=?ft42) ?gt42 ?_
               case gt42=>(intro w' ⟨s0,s1,s2,s3⟩;go_simp;try with_reducible rfl)
               try simp only[Act.put,rd]
               refine tk 19 (v:=(.bool false)) ?gt43 ?_
               case gt43=>(intro w' ⟨s0,s1,s2,s3⟩;go_simp;try with_reducible rfl)
               try simp only[Act.put,rd]
               refine tk 20 (v:=?ft44) ?gt44 ?_
               case gt44=>(intro w' ⟨s0,s1,s2,s3⟩;go_simp;try with_reducible rfl)
               try simp only[Act.put,rd]
               refine tk 21 (v:=?ft45) ?gt45 ?_
               case gt45=>(intro w' ⟨s0,s1,s2,s3⟩;go_simp;try with_reducible rfl)
               try simp only[Act.put,rd]
               refine tk 22 (v:=?ft46) ?gt46 ?_
               case gt46=>(intro w' ⟨s0,s1,s2,s3⟩;go_simp;try with_reducible rfl)
               try simp only[Act.put,rd]
               refine tk 23 (v:=?ft47) ?gt47 ?_
               case gt47=>(intro w' ⟨s0,s1,s2,s3⟩;go_simp;try with_reducible rfl)
               try simp only[Act.put,rd]
               refine tk 24 (v:=?ft48) ?gt48 ?_
               case gt48=>(intro w' ⟨s0,s1,s2,s3⟩;go_simp;try with_reducible rfl)
               try simp only[Act.put,rd]
               refine tk 25 (v:=?ft49) ?gt49 ?_
               case gt49=>(intro w' ⟨s0,s1,s2,s3⟩;go_simp;try with_reducible rfl)
               try simp only[Act.put,rd]
               refine tk 26 (v:=?ft50) ?gt50 ?_
               case gt50=>(intro w' ⟨s0,s1,s2,s3⟩;go_simp;try with_reducible rfl)
               try simp only[Act.put,rd]
               refine tk 27 (v:=?ft51) ?gt51 ?_
               case gt51=>(intro w' ⟨s0,s1,s2,s3⟩;go_simp;try with_reducible rfl)
               try simp only[Act.put,rd]
               refine tk 28 (v:=?ft52) ?gt52 ?_
               case gt52=>(intro w' ⟨s0,s1,s2,s3⟩;go_simp;try with_reducible rfl)
               try simp only[Act.put,rd]
               refine tk 29 (v:=?ft53) ?gt53 ?_
               case gt53=>(intro w' ⟨s0,s1,s2,s3⟩;go_simp;try with_reducible rfl)
               try simp only[Act.put,rd]
               refine tk 30 (v:=?ft54) ?gt54 ?_
               case gt54=>(intro w' ⟨s0,s1,s2,s3⟩;go_simp;try with_reducible rfl)
               try simp only[Act.put,rd]
               refine tk 31 (v:=(.bool false)) ?gt55 ?_
               case gt55=>(intro w' ⟨s0,s1,s2,s3⟩;go_simp;try with_reducible rfl)
               try simp only[Act.put,rd]
               refine tk 32 (v:=(.bool false)) ?gt56 ?_
               case gt56=>(intro w' ⟨s0,s1,s2,s3⟩;go_simp;try with_reducible rfl)
               try simp only[Act.put,rd]
               refine tk 33 (v:=(.bool false)) ?gt57 ?_
               case gt57=>(intro w' ⟨s0,s1,s2,s3⟩;go_simp;try with_reducible rfl)
               try simp only[Act.put,rd]
               refine tk 34 (v:=(.bool false)) ?gt58 ?_
               case gt58=>(intro w' ⟨s0,s1,s2,s3⟩;go_simp;try with_reducible rfl)
               try simp only[Act.put,rd]
               refine tk 35 (v:=?ft59) ?gt59 ?_
               case gt59=>(intro w' ⟨s0,s1,s2,s3⟩;go_simp;try with_reducible rfl)
               try simp only[Act.put,rd]
               refine tk 36 (v:=?ft60) ?gt60 ?_
               case gt60=>(intro w' ⟨s0,s1,s2,s3⟩;go_simp;try with_reducible rfl)
               try simp only[Act.put,rd]
               refine tk 37 (v:=(.bool false)) ?gt61 ?_
               case gt61=>(intro w' ⟨s0,s1,s2,s3⟩;go_simp;try with_reducible rfl)
               try simp only[Act.put,rd]
               refine tk 38 (v:=?ft62) ?gt62 ?_
               case gt62=>(intro w' ⟨s0,s1,s2,s3⟩;go_simp;try with_reducible rfl)
               try simp only[Act.put,rd]
               refine sk 39 ?_
               try simp only[Act.put,rd]
               refine sk 40 ?_
               try simp only[Act.put,rd]
               refine sk 41 ?_
               try simp only[Act.put,rd]
               refine tk 42 (v:=(.bool false)) ?gt63 ?_
               case gt63=>(intro w' ⟨s0,s1,s2,s3⟩;go_simp;try with_reducible rfl)
               try simp only[Act.put,rd]
               refine tk 43 (v:=(.bool false)) ?gt64 ?_
               case gt64=>(intro w' ⟨s0,s1,s2,s3⟩;go_simp;try with_reducible rfl)
               try simp only[Act.put,rd]
               refine wpAnyH_done (by kernel_rfl) ?_ _
               go_wp2_with fail
               go_meet
               exact⟨_,rfl,rfl,HEd2.out⟩
              ·skip
               obtain rfl:pv=-1:=HPr.out.1 rfl
               have g0:=f3 rfl
               clear f0 f3 f4
               have hb4:((Lt:Int) != 1)=false:=by rw[g0];rfl
               have g7:(0:Int)<(Lt:Int):=by omega
               have g8:(Lt:Int)≤(V:Int):=by omega
               clear g0
               refine wp_region_held_drew (S:=fun W=>W.cell? ⟨gp,0,none⟩=some (.int .i64 (v:Int))) (by kernel_rfl) z0 (fun hHeld=>?_)
               refine tk 0 (v:=?ft65) ?gt65 ?_
               case gt65=>(intro w' s0;go_simp;try with_reducible rfl)
               try simp only[Act.put,rd]
               refine tk 1 (v:=?ft66) ?gt66 ?_
               case gt66=>(intro w' s0;go_simp;try with_reducible rfl)
               try simp only[Act.put,rd]
               refine tk 2 (v:=?ft67) ?gt67 ?_
               case gt67=>(intro w' s0;go_simp;try with_reducible rfl)
               try simp only[Act.put,rd]
               refine tk 3 (v:=?ft68) ?gt68 ?_
               case gt68=>(intro w' s0;go_simp;try with_reducible rfl)
               try simp only[Act.put,rd]
               refine tk 4 (v:=(.bool false)) ?gt69 ?_
               case gt69=>(intro w' s0;go_simp;try with_reducible rfl)
               try simp only[Act.put,rd]
               refine tk 5 (v:=?ft70) ?gt70 ?_
               case gt70=>(intro w' s0;go_simp;try with_reducible rfl)
               try simp only[Act.put,rd]
               refine tk 6 (v:=?ft71) ?gt71 ?_
               case gt71=>(intro w' s0;go_simp;try with_reducible rfl)
               try simp only[Act.put,rd]
               refine tk 7 (v:=?ft72) ?gt72 ?_
               case gt72=>(intro w' s0;go_simp;try with_reducible rfl)
               try simp only[Act.put,rd]
               refine tk 8 (v:=?ft73) ?gt73 ?_
               case gt73=>(intro w' s0;go_simp;try with_reducible rfl)
               try simp only[Act.put,rd]
               refine tk 9 (v:=(.bool false)) ?gt74 ?_
               case gt74=>(intro w' s0;go_simp;try with_reducible rfl)
               try simp only[Act.put,rd]
               refine tk 10 (v:=(.bool false)) ?gt75 ?_
               case gt75=>(intro w' s0;go_simp;try with_reducible rfl)
               try simp only[Act.put,rd]
               refine tk 11 (v:=?ft76) ?gt76 ?_
               case gt76=>(intro w' s0;go_simp;try with_reducible rfl)
               try simp only[Act.put,rd]
               refine tk 12 (v:=?ft77) ?gt77 ?_
               case gt77=>(intro w' s0;go_simp;try with_reducible rfl)
               try simp only[Act.put,rd]
               refine tk 13 (v:=(.bool false)) ?gt78 ?_
               case gt78=>(intro w' s0;go_simp;try with_reducible rfl)
               try simp only[Act.put,rd]
               refine tk 14 (v:=?ft79) ?gt79 ?_
               case gt79=>(intro w' s0;go_simp;try with_reducible rfl)
               try simp only[Act.put,rd]
               refine sk 15 ?_
               try simp only[Act.put,rd]
               refine sk 16 ?_
               try simp only[Act.put,rd]
               refine sk 17 ?_
               try simp only[Act.put,rd]
               refine sk 18 ?_
               try simp only[Act.put,rd]
               refine sk 19 ?_
               try simp only[Act.put,rd]
               refine sk 20 ?_
               try simp only[Act.put,rd]
               refine sk 21 ?_
               try simp only[Act.put,rd]
               refine sk 22 ?_
               try simp only[Act.put,rd]
               refine sk 23 ?_
               try simp only[Act.put,rd]
               refine sk 24 ?_
               try simp only[Act.put,rd]
               refine sk 25 ?_
               try simp only[Act.put,rd]
               refine sk 26 ?_
               try simp only[Act.put,rd]
               refine sk 27 ?_
               try simp only[Act.put,rd]
               refine sk 28 ?_
               try simp only[Act.put,rd]
               refine sk 29 ?_
               try simp only[Act.put,rd]
               refine sk 30 ?_
               try simp only[Act.put,rd]
               refine sk 31 ?_
               try simp only[Act.put,rd]
               refine sk 32 ?_
               try simp only[Act.put,rd]
               refine tk 33 (v:=(.bool false)) ?gt80 ?_
               case gt80=>(intro w' s0;go_simp;try with_reducible rfl)
               try simp only[Act.put,rd]
               refine tk 34 (v:=(.bool false)) ?gt81 ?_
               case gt81=>(intro w' s0;go_simp;try with_reducible rfl)
               try simp only[Act.put,rd]
               refine tk 35 (v:=?ft82) ?gt82 ?_
               case gt82=>(intro w' s0;go_simp;try with_reducible rfl)
               try simp only[Act.put,rd]
               refine tk 36 (v:=?ft83) ?gt83 ?_
               case gt83=>(intro w' s0;go_simp;try with_reducible rfl)
               try simp only[Act.put,rd]
               refine tk 37 (v:=(.bool true)) ?gt84 ?_
               case gt84=>(intro w' s0;go_simp;try with_reducible rfl)
               try simp only[Act.put,rd]
               refine tk 38 (v:=?ft85) ?gt85 ?_
               case gt85=>(intro w' s0;go_simp;try with_reducible rfl)
               try simp only[Act.put,rd]
               refine tk 39 (v:=?ft86) ?gt86 ?_
               case gt86=>(intro w' s0;go_simp;try with_reducible rfl)
               try simp only[Act.put,rd]
               refine tk 40 (v:=?ft87) ?gt87 ?_
               case gt87=>(intro w' s0;go_simp;try with_reducible rfl)
               try simp only[Act.put,rd]
               refine tk 41 (v:=(.bool false)) ?gt88 ?_
               case gt88=>(intro w' s0;go_simp;try with_reducible rfl)
               try simp only[Act.put,rd]
               refine tk 42 (v:=(.bool false)) ?gt89 ?_
               case gt89=>(intro w' s0;go_simp;try with_reducible rfl)
               try simp only[Act.put,rd]
               refine tk 43 (v:=(.bool false)) ?gt90 ?_
               case gt90=>(intro w' s0;go_simp;try with_reducible rfl)
               try simp only[Act.put,rd]
               refine wpAnyH_done (by kernel_rfl) ?_ _
               go_wp2_with fail
               go_meet
               exact⟨_,rfl,rfl,HEd2.out⟩
             case rest=>
              obtain⟨w13,rfl,rfl,he13⟩:=hcut
              as_aux_lemma=>
               have HE13:=Lib.hid he13
               clear he13 HE12 HO12 HPf HPr HCc HIv HLt
               go_wp2_with fail
               refine (HCh.out _ _ HE13.out).mono ?_
               rintro e w14 ⟨v14,R14,d0,rfl,hd0,hdv,he14,ho14⟩
               have hl:=HDc.out d0 hd0 hdv
               have hq:=HDp.out d0 hd0 hdv
               obtain⟨C,hC⟩:∃ C,(((toI (orbitL s d0)).filter fun d=>nth O (d.toNat ^^^ 1) == (k:Int)).map fun d=>nth (namesL s) (d.toNat ^^^ 1))=C:=⟨_,rfl⟩
               rw[hC] at hl hq ho14
               obtain⟨m,hm⟩:∃ m,C.length=m:=⟨_,rfl⟩
               obtain⟨a14,c14,rfl,-⟩:=ho14.ints.open
               rw[hm] at hl hq ho14 ⊢
               have HCl:=Lib.hid hm
               have HQ:=Lib.hid hq
               have HM:=Lib.hid hl
               have hmN:m≤1000:=by rw[hl];exact Nat.le_trans (tally_le _ _) (by rw[HN.out];exact hN1000)
               have HE14:=Lib.hid (HE13.out.trans he14)
               have HO14:=Lib.hid ho14
               have HPb:=Lib.hid (fun R' w' (he:Ev R14 w14 R' w') (u:Nat) (hu:u<V)=>HPa.out R' w' (HE14.out.trans he) u hu)
               clear hd0 hdv he14 ho14 hl hq hC hm HDc HDp HCh HE13
               go_wp2_with fail
               go_loopg [14,130] m (fun g v14 v130 wq=>∃ (i:Nat) (R15:Reg),i≤m∧m-i≤g∧v14=.int .i64 ((ed+i:Nat):Int)∧v130=.int .i64 (i:Int)∧Ev R14 w14 R15 wq∧OwnI R15 w13.heap.size 3 wq (.slice a14 m c14) C)
               case atStart=>exact⟨0,R14,Nat.zero_le _,by omega,rfl,rfl,Ev.refl HE14.out.inv,HO14.out⟩
               case round=>
                obtain⟨i,R15,him,hgi,rfl,rfl,he15,ho15⟩:=hrel
                as_aux_lemma=>
                 have HE15:=Lib.hid he15
                 have HO15:=Lib.hid ho15
                 clear he15 ho15 HO14
                 by_cases hil:i<m
                 ·obtain⟨g14,rfl,-,-,z,-⟩:=HO15.out.headAt HCl.out (i:=i) hil
                  obtain⟨u,hu1,hu2,hu3⟩:=HQ.out i hil
                  rw[hu1] at z
                  have HP1:=Lib.hid (HPb.out _ _ HE15.out u (by rw[←HV.out];exact hu2))
                  rw[hu3] at HP1
                  have hw1:IntKind.i64.wrap (((ed+i:Nat):Int)+1)=((ed+(i+1):Nat):Int):=by rw[show ((ed+i:Nat):Int)+1=((ed+(i+1):Nat):Int) by omega];exact IntWalk.i64_in _ (by omega)
                  obtain⟨en,hen⟩:∃ x,ed+i=x:=⟨_,rfl⟩
                  obtain⟨en2,hen2⟩:∃ x,ed+(i+1)=x:=⟨_,rfl⟩
                  rw[hen,hen2] at hw1
                  rw[hen]
                  have HEn:=Lib.hid hen2
                  clear hu1 hu2 hu3 hen hen2
                  go_wp2_with fail
                  refine HP1.out.mono ?_
                  rintro e w16 ⟨rfl,R16,he16⟩
                  have HE16:=Lib.hid (HE15.out.trans he16)
                  have HO16:=Lib.hid (HO15.out.ev he16)
                  have hb:((v:Int) != (v:Int))=false:=by simp
                  clear he16 HP1
                  go_wp2_with fail
                  go_roundg (m-(i+1))
                  case measure=>omega
                  case rel=>exact⟨i+1,R16,by omega,by omega,by rw[HEn.out],by go_num,HE16.out,HO16.out⟩
                 ·obtain rfl:m=i:=by omega
                  have HFe:Hid (ed+m=sumQ (inN s r (plC (orderL s r)) (k:Int)) (v+1)):=Lib.hid (by show _=sumQ (inN s r (plC (orderL s r)) (k:Int)) v+inN s r (plC (orderL s r)) (k:Int) v;rw[←HEd.out,HM.out])
                  obtain⟨en,hen⟩:∃ x,ed+m=x:=⟨_,rfl⟩
                  rw[hen] at HFe ⊢
                  clear hen
                  go_wp2_with fail
                  go_roundg (V-(v+1))
                  case measure=>omega
                  case rel=>exact⟨v+1,en,R15,by omega,by omega,rfl,by go_num,HE14.out.trans HE15.out,HFe.out⟩
          ·obtain rfl:V=v:=by omega
           have hcc:=come_count HT.out HR.out (plC_own HT.out HR.out) (c:=(k:Int)) (by omega) (by omega)
           rw[HV.out,←HEd.out] at hcc
           have hw1:IntKind.i64.wrap ((V:Int)-3)=(ed:Int):=by rw[show (V:Int)-3=(ed:Int) by omega];exact IntWalk.i64_in _ (by omega)
           clear hcc
           go_wp2_with fail
           go_roundg (3-(k+1))
           case measure=>omega
           case rel=>exact⟨k+1,R9,by omega,by omega,by go_num,HE9.out⟩
       ·obtain rfl:k=3:=by omega
        go_wp2_with fail
        go_ret
        exact⟨rfl,R8,HFin.out.trans HE8.out⟩
end
end Go.Proofs.YtgphnkkdmlohlaaGreat
