/- dual.Cut, dual.Shrink. -/
import Derived.Test.YtklkgicjfnbndaaGreatZU23
import Derived.Test.YtklkgicjfnbndaaGreatZU22
namespace Go.Proofs.YtklkgicjfnbndaaGreat
section
open Go.RowKit
set_option linter.unusedVariables false
def exL (s:List Nat) (e:Nat):List Nat:=(s.set (2*e) (at' s (2*e+1))).set (2*e+1) (at' s (2*e))
theorem exL_length (s:List Nat) (e:Nat):(exL s e).length=s.length:=by simp[exL]
def exI (e i:Nat):Nat:=if i=2*e+1 then 2*e else if i=2*e then 2*e+1 else i
theorem exI_lt {e i n:Nat} (hn:2*e+2≤n) (hi:i<n):exI e i<n:=by unfold exI;split <;> (try split) <;> omega
theorem exI_inj {e i j:Nat} (h:exI e i=exI e j):i=j:=by
 unfold exI at h
 repeat' split at h
 all_goals omega
theorem exL_at {s:List Nat} {e i:Nat} (hi:i<s.length):at' (exL s e) i=at' s (exI e i):=by
 unfold exL at' exI
 simp only[List.getD_eq_getElem?_getD,List.getElem?_set,List.length_set]
 by_cases h1:i=2*e+1
 ·subst h1;simp[hi]
 ·rw[if_neg (fun h=>h1 h.symm),if_neg h1]
  by_cases h2:i=2*e
  ·subst h2;simp[hi]
  ·rw[if_neg (fun h=>h2 h.symm),if_neg h2]
theorem exL_perm {s:List Nat} (hs:IsPerm s) {e:Nat} (hn:2*e+2≤s.length):IsPerm (exL s e):=by
 refine IsPerm.of_inj (fun i hi=>?_) (fun i j hi hj h=>?_)
 ·rw[exL_length] at hi ⊢
  rw[exL_at hi]
  exact hs.lt (exI_lt hn hi)
 ·rw[exL_length] at hi hj
  rw[exL_at hi,exL_at hj] at h
  exact exI_inj (hs.inj (exI_lt hn hi) (exI_lt hn hj) h)
def oneIf (b:Bool):Int:=if b=true then 1 else 0
def cutLone (s:List Nat) (e:Nat):Int:=oneIf (bareB s e (2*e))+oneIf (!decide (nth (namesL s) (2*e)=nth (namesL s) (2*e+1)) && bareB s e (2*e+1))
def shrLone (s:List Nat) (e:Nat):Int:=oneIf (bareB s e (2*e) && bareB s e (2*e+1))
theorem oneIf_le (b:Bool):0≤oneIf b∧oneIf b≤1:=by cases b <;> simp[oneIf]
theorem cutLone_le (s:List Nat) (e:Nat):0≤cutLone s e∧cutLone s e≤2:=by
 unfold cutLone
 have h1:=oneIf_le (bareB s e (2*e))
 have h2:=oneIf_le (!decide (nth (namesL s) (2*e)=nth (namesL s) (2*e+1)) && bareB s e (2*e+1))
 omega
theorem shrLone_le (s:List Nat) (e:Nat):0≤shrLone s e∧shrLone s e≤1:=oneIf_le _
set_option maxRecDepth 100000 in
set_option maxHeartbeats 4000000 in
theorem cut_any (R:Reg) (w:World) (hI:Inv R w) (p:Value) (s:List Nat) (root lone:Int) (hp:MapAt R p s root lone) (e:Nat) (he:e<s.length / 2) (hlb:lone≤60000):
  Calls Tryz.prog 22 #[p,.int .i64 (e:Int)] w (NewYes R w (doneL s e) (rootL s e root.toNat) (lone+cutLone s e)):=by
 obtain⟨hS,hok⟩:=hp.ok hI
 have hn:=hok.2.1
 have hev:=hok.1
 have hlo:=hok.2.2.1
 have hen:2*e+2≤s.length:=by omega
 have HOf:=Lib.hid (dof_any R w hI p s root lone hp e he)
 have HVx:=Lib.hid (fun R' w' (hee:Ev R w R' w') (d:Nat) (hd:d<s.length)=>(by
  have:=vertex_any R' w' hee.inv p s root lone (hee.map hp) (d:Int)
  rw[nameI_in hd] at this
  exact this:Calls Tryz.prog 65 #[p,.int .i64 (d:Int)] w' _))
 have HBa:=Lib.hid (fun R' w' (hee:Ev R w R' w') x L (h:LessAt R' w' x p e L) (d:Nat) (hd:d<s.length)=>bare_any R' w' hee.inv x p s root lone (hee.map hp) e L h d hd)
 have HDo:=Lib.hid (fun R' w' (hee:Ev R w R' w') x L (h:LessAt R' w' x p e L) hL hLl l hl=>done_any R' w' hee.inv x p s root lone (hee.map hp) e L h hL hLl hen l hl)
 have hw2:IntKind.i64.wrap (2*(e:Int))=((2*e:Nat):Int):=by rw[show 2*(e:Int)=((2*e:Nat):Int) by omega];exact IntWalk.i64_in _ (by omega)
 have hw3:IntKind.i64.wrap (((2*e:Nat):Int)+1)=((2*e+1:Nat):Int):=by rw[show ((2*e:Nat):Int)+1=((2*e+1:Nat):Int) by omega];exact IntWalk.i64_in _ (by omega)
 have HI:=Lib.hid hI
 have HS:=Lib.hid hS
 have hcl:=cutLone_le s e
 have hcd:cutLone s e=oneIf (bareB s e (2*e))+oneIf (!decide (nth (namesL s) (2*e)=nth (namesL s) (2*e+1)) && bareB s e (2*e+1)):=rfl
 obtain⟨cl,hcle⟩:∃ c,cutLone s e=c:=⟨_,rfl⟩
 rw[hcle] at hcl hcd ⊢
 obtain⟨n0,hn0⟩:∃ x,nth (namesL s) (2*e)=x:=⟨_,rfl⟩
 obtain⟨n1,hn1⟩:∃ x,nth (namesL s) (2*e+1)=x:=⟨_,rfl⟩
 have HB0:=Lib.hid (fun R' w' (hee:Ev R w R' w') x L (h:LessAt R' w' x p e L)=>HBa.out R' w' hee x L h (2*e) (by omega))
 have HB1:=Lib.hid (fun R' w' (hee:Ev R w R' w') x L (h:LessAt R' w' x p e L)=>HBa.out R' w' hee x L h (2*e+1) (by omega))
 have HV0:=Lib.hid (fun R' w' (hee:Ev R w R' w')=>HVx.out R' w' hee (2*e) (by omega))
 have HV1:=Lib.hid (fun R' w' (hee:Ev R w R' w')=>HVx.out R' w' hee (2*e+1) (by omega))
 obtain⟨b0,hb0⟩:∃ x,bareB s e (2*e)=x:=⟨_,rfl⟩
 obtain⟨b1,hb1⟩:∃ x,bareB s e (2*e+1)=x:=⟨_,rfl⟩
 rw[hn0] at HV0 hcd
 rw[hn1] at HV1 hcd
 rw[hb0] at HB0 hcd
 rw[hb1] at HB1 hcd
 have HCd:=Lib.hid hcd
 clear hI hS hok hcd hcle hn0 hn1 hb0 hb1 HVx HBa hp
 go_enter Tryz.func22,Tryz.ntmps22
 go_wp2_with fail
 refine HOf.out.mono ?_
 rintro z w2 ⟨b,a,cap,rfl,he2,hls⟩
 have HE2:=Lib.hid he2
 have HLs:=Lib.hid hls
 clear he2 hls
 go_wp2_with fail
 refine (HB0.out _ _ HE2.out _ _ HLs.out.at).mono ?_
 rintro z w3 ⟨rfl,he3⟩
 have HE3:=Lib.hid (HE2.out.trans he3)
 have HLs3:=Lib.hid (HLs.out.ev he3)
 clear he3
 cases b0
 ·by_cases hnn:n0=n1
  ·have hv:cl=0:=by rw[HCd.out];simp[oneIf,hnn]
   subst hv
   have hbn:(n0 != n1)=false:=by rw[hnn];simp
   clear hnn HCd
   go_wp2_with fail
   refine (HV0.out _ _ HE3.out).mono ?_
   rintro z w4 ⟨rfl,R4,he4⟩
   have HE4:=Lib.hid (HE3.out.trans he4)
   have HLs4:=Lib.hid (HLs3.out.ev he4)
   clear he4
   go_wp2_with fail
   refine (HV1.out _ _ HE4.out).mono ?_
   rintro z w5 ⟨rfl,R5,he5⟩
   have HE5:=Lib.hid (HE4.out.trans he5)
   have HLs5:=Lib.hid (HLs4.out.ev he5)
   clear he5
   go_wp2_with fail
   refine (HDo.out _ _ HE5.out _ _ HLs5.out.at HS.out rfl 0 (by omega)).mono ?_
   rintro z w7 ⟨q,R7,rfl,he7,hq⟩
   have HE7:=Lib.hid (HE5.out.trans he7)
   have HQ:=Lib.hid hq
   clear he7 hq
   go_wp2_with fail
   go_ret2
   exact⟨_,R7,rfl,HE7.out,HQ.out⟩
  ·cases b1
   ·have hv:cl=0:=by rw[HCd.out];simp[oneIf,hnn]
    subst hv
    have hbn:(n0 != n1)=true:=by simp[hnn]
    clear hnn HCd
    go_wp2_with fail
    refine (HV0.out _ _ HE3.out).mono ?_
    rintro z w4 ⟨rfl,R4,he4⟩
    have HE4:=Lib.hid (HE3.out.trans he4)
    have HLs4:=Lib.hid (HLs3.out.ev he4)
    clear he4
    go_wp2_with fail
    refine (HV1.out _ _ HE4.out).mono ?_
    rintro z w5 ⟨rfl,R5,he5⟩
    have HE5:=Lib.hid (HE4.out.trans he5)
    have HLs5:=Lib.hid (HLs4.out.ev he5)
    clear he5
    go_wp2_with fail
    refine (HB1.out _ _ HE5.out _ _ HLs5.out.at).mono ?_
    rintro z w6 ⟨rfl,he6⟩
    have HE6:=Lib.hid (HE5.out.trans he6)
    have HLs6:=Lib.hid (HLs5.out.ev he6)
    clear he6
    go_wp2_with fail
    refine (HDo.out _ _ HE6.out _ _ HLs6.out.at HS.out rfl 0 (by omega)).mono ?_
    rintro z w7 ⟨q,R7,rfl,he7,hq⟩
    have HE7:=Lib.hid (HE6.out.trans he7)
    have HQ:=Lib.hid hq
    clear he7 hq
    go_wp2_with fail
    go_ret2
    exact⟨_,R7,rfl,HE7.out,HQ.out⟩
   ·have hv:cl=1:=by rw[HCd.out];simp[oneIf,hnn]
    subst hv
    have hbn:(n0 != n1)=true:=by simp[hnn]
    clear hnn HCd
    go_wp2_with fail
    refine (HV0.out _ _ HE3.out).mono ?_
    rintro z w4 ⟨rfl,R4,he4⟩
    have HE4:=Lib.hid (HE3.out.trans he4)
    have HLs4:=Lib.hid (HLs3.out.ev he4)
    clear he4
    go_wp2_with fail
    refine (HV1.out _ _ HE4.out).mono ?_
    rintro z w5 ⟨rfl,R5,he5⟩
    have HE5:=Lib.hid (HE4.out.trans he5)
    have HLs5:=Lib.hid (HLs4.out.ev he5)
    clear he5
    go_wp2_with fail
    refine (HB1.out _ _ HE5.out _ _ HLs5.out.at).mono ?_
    rintro z w6 ⟨rfl,he6⟩
    have HE6:=Lib.hid (HE5.out.trans he6)
    have HLs6:=Lib.hid (HLs5.out.ev he6)
    clear he6
    go_wp2_with fail
    refine (HDo.out _ _ HE6.out _ _ HLs6.out.at HS.out rfl 1 (by omega)).mono ?_
    rintro z w7 ⟨q,R7,rfl,he7,hq⟩
    have HE7:=Lib.hid (HE6.out.trans he7)
    have HQ:=Lib.hid hq
    clear he7 hq
    go_wp2_with fail
    go_ret2
    exact⟨_,R7,rfl,HE7.out,HQ.out⟩
 ·by_cases hnn:n0=n1
  ·have hv:cl=1:=by rw[HCd.out];simp[oneIf,hnn]
   subst hv
   have hbn:(n0 != n1)=false:=by rw[hnn];simp
   clear hnn HCd
   go_wp2_with fail
   refine (HV0.out _ _ HE3.out).mono ?_
   rintro z w4 ⟨rfl,R4,he4⟩
   have HE4:=Lib.hid (HE3.out.trans he4)
   have HLs4:=Lib.hid (HLs3.out.ev he4)
   clear he4
   go_wp2_with fail
   refine (HV1.out _ _ HE4.out).mono ?_
   rintro z w5 ⟨rfl,R5,he5⟩
   have HE5:=Lib.hid (HE4.out.trans he5)
   have HLs5:=Lib.hid (HLs4.out.ev he5)
   clear he5
   go_wp2_with fail
   refine (HDo.out _ _ HE5.out _ _ HLs5.out.at HS.out rfl 1 (by omega)).mono ?_
   rintro z w7 ⟨q,R7,rfl,he7,hq⟩
   have HE7:=Lib.hid (HE5.out.trans he7)
   have HQ:=Lib.hid hq
   clear he7 hq
   go_wp2_with fail
   go_ret2
   exact⟨_,R7,rfl,HE7.out,HQ.out⟩
  ·cases b1
   ·have hv:cl=1:=by rw[HCd.out];simp[oneIf,hnn]
    subst hv
    have hbn:(n0 != n1)=true:=by simp[hnn]
    clear hnn HCd
    go_wp2_with fail
    refine (HV0.out _ _ HE3.out).mono ?_
    rintro z w4 ⟨rfl,R4,he4⟩
    have HE4:=Lib.hid (HE3.out.trans he4)
    have HLs4:=Lib.hid (HLs3.out.ev he4)
    clear he4
    go_wp2_with fail
    refine (HV1.out _ _ HE4.out).mono ?_
    rintro z w5 ⟨rfl,R5,he5⟩
    have HE5:=Lib.hid (HE4.out.trans he5)
    have HLs5:=Lib.hid (HLs4.out.ev he5)
    clear he5
    go_wp2_with fail
    refine (HB1.out _ _ HE5.out _ _ HLs5.out.at).mono ?_
    rintro z w6 ⟨rfl,he6⟩
    have HE6:=Lib.hid (HE5.out.trans he6)
    have HLs6:=Lib.hid (HLs5.out.ev he6)
    clear he6
    go_wp2_with fail
    refine (HDo.out _ _ HE6.out _ _ HLs6.out.at HS.out rfl 1 (by omega)).mono ?_
    rintro z w7 ⟨q,R7,rfl,he7,hq⟩
    have HE7:=Lib.hid (HE6.out.trans he7)
    have HQ:=Lib.hid hq
    clear he7 hq
    go_wp2_with fail
    go_ret2
    exact⟨_,R7,rfl,HE7.out,HQ.out⟩
   ·have hv:cl=2:=by rw[HCd.out];simp[oneIf,hnn]
    subst hv
    have hbn:(n0 != n1)=true:=by simp[hnn]
    clear hnn HCd
    go_wp2_with fail
    refine (HV0.out _ _ HE3.out).mono ?_
    rintro z w4 ⟨rfl,R4,he4⟩
    have HE4:=Lib.hid (HE3.out.trans he4)
    have HLs4:=Lib.hid (HLs3.out.ev he4)
    clear he4
    go_wp2_with fail
    refine (HV1.out _ _ HE4.out).mono ?_
    rintro z w5 ⟨rfl,R5,he5⟩
    have HE5:=Lib.hid (HE4.out.trans he5)
    have HLs5:=Lib.hid (HLs4.out.ev he5)
    clear he5
    go_wp2_with fail
    refine (HB1.out _ _ HE5.out _ _ HLs5.out.at).mono ?_
    rintro z w6 ⟨rfl,he6⟩
    have HE6:=Lib.hid (HE5.out.trans he6)
    have HLs6:=Lib.hid (HLs5.out.ev he6)
    clear he6
    go_wp2_with fail
    refine (HDo.out _ _ HE6.out _ _ HLs6.out.at HS.out rfl 2 (by omega)).mono ?_
    rintro z w7 ⟨q,R7,rfl,he7,hq⟩
    have HE7:=Lib.hid (HE6.out.trans he7)
    have HQ:=Lib.hid hq
    clear he7 hq
    go_wp2_with fail
    go_ret2
    exact⟨_,R7,rfl,HE7.out,HQ.out⟩
set_option maxRecDepth 100000 in
set_option maxHeartbeats 4000000 in
theorem shrink_any (R:Reg) (w:World) (hI:Inv R w) (p:Value) (s:List Nat) (root lone:Int) (hp:MapAt R p s root lone) (e:Nat) (he:e<s.length / 2) (hlb:lone≤60000) (hnn:nth (namesL s) (2*e)≠nth (namesL s) (2*e+1)):
  Calls Tryz.prog 20 #[p,.int .i64 (e:Int)] w (NewYes R w (doneL (exL s e) e) (rootL s e root.toNat) (lone+shrLone s e)):=by
 obtain⟨hS,hok⟩:=hp.ok hI
 have hn:=hok.2.1
 have hev:=hok.1
 have hlo:=hok.2.2.1
 have hen:2*e+2≤s.length:=by omega
 have HOf:=Lib.hid (dof_any R w hI p s root lone hp e he)
 have HVx:=Lib.hid (fun R' w' (hee:Ev R w R' w') (d:Nat) (hd:d<s.length)=>(by
  have:=vertex_any R' w' hee.inv p s root lone (hee.map hp) (d:Int)
  rw[nameI_in hd] at this
  exact this:Calls Tryz.prog 65 #[p,.int .i64 (d:Int)] w' _))
 have HBa:=Lib.hid (fun R' w' (hee:Ev R w R' w') x L (h:LessAt R' w' x p e L) (d:Nat) (hd:d<s.length)=>bare_any R' w' hee.inv x p s root lone (hee.map hp) e L h d hd)
 have HDo:=Lib.hid (fun R' w' (hee:Ev R w R' w') x L (h:LessAt R' w' x p e L) hL hLl l hl=>done_any R' w' hee.inv x p s root lone (hee.map hp) e L h hL hLl hen l hl)
 have hw2:IntKind.i64.wrap (2*(e:Int))=((2*e:Nat):Int):=by rw[show 2*(e:Int)=((2*e:Nat):Int) by omega];exact IntWalk.i64_in _ (by omega)
 have hw3:IntKind.i64.wrap (((2*e:Nat):Int)+1)=((2*e+1:Nat):Int):=by rw[show ((2*e:Nat):Int)+1=((2*e+1:Nat):Int) by omega];exact IntWalk.i64_in _ (by omega)
 have HI:=Lib.hid hI
 have HS:=Lib.hid hS
 have hcl:=shrLone_le s e
 have hcd:shrLone s e=oneIf (bareB s e (2*e) && bareB s e (2*e+1)):=rfl
 obtain⟨cl,hcle⟩:∃ c,shrLone s e=c:=⟨_,rfl⟩
 rw[hcle] at hcl hcd ⊢
 obtain⟨n0,hn0⟩:∃ x,nth (namesL s) (2*e)=x:=⟨_,rfl⟩
 obtain⟨n1,hn1⟩:∃ x,nth (namesL s) (2*e+1)=x:=⟨_,rfl⟩
 have HB0:=Lib.hid (fun R' w' (hee:Ev R w R' w') x L (h:LessAt R' w' x p e L)=>HBa.out R' w' hee x L h (2*e) (by omega))
 have HB1:=Lib.hid (fun R' w' (hee:Ev R w R' w') x L (h:LessAt R' w' x p e L)=>HBa.out R' w' hee x L h (2*e+1) (by omega))
 have HV0:=Lib.hid (fun R' w' (hee:Ev R w R' w')=>HVx.out R' w' hee (2*e) (by omega))
 have HV1:=Lib.hid (fun R' w' (hee:Ev R w R' w')=>HVx.out R' w' hee (2*e+1) (by omega))
 obtain⟨b0,hb0⟩:∃ x,bareB s e (2*e)=x:=⟨_,rfl⟩
 obtain⟨b1,hb1⟩:∃ x,bareB s e (2*e+1)=x:=⟨_,rfl⟩
 rw[hn0] at HV0 hnn
 rw[hn1] at HV1 hnn
 rw[hb0] at HB0 hcd
 rw[hb1] at HB1 hcd
 have HCd:=Lib.hid hcd
 have hbn:(n0 == n1)=false:=by simp[hnn]
 have HSp:=Lib.hid (exL_perm hS hen)
 clear hI hS hok hcd hcle hn0 hn1 hb0 hb1 HVx HBa hp hnn
 go_enter Tryz.func20,Tryz.ntmps20
 go_wp2_with fail
 refine HOf.out.mono ?_
 rintro z w2 ⟨b,a,cap,rfl,he2,hls⟩
 have HE2:=Lib.hid he2
 have HLs:=Lib.hid hls
 clear he2 hls
 go_wp2_with fail
 refine (HV0.out _ _ HE2.out).mono ?_
 rintro z w4 ⟨rfl,R4,he4⟩
 have HE4:=Lib.hid (HE2.out.trans he4)
 have HLs4:=Lib.hid (HLs.out.ev he4)
 clear he4
 go_wp2_with fail
 refine (HV1.out _ _ HE4.out).mono ?_
 rintro z w5 ⟨rfl,R5,he5⟩
 have HE5:=Lib.hid (HE4.out.trans he5)
 have HLs5:=Lib.hid (HLs4.out.ev he5)
 clear he5 HLs4 HLs
 go_wp2_with fail
 refine (HB0.out _ _ HE5.out _ _ HLs5.out.at).mono ?_
 rintro z w6 ⟨rfl,he6⟩
 have HE6:=Lib.hid (HE5.out.trans he6)
 have HLs6:=Lib.hid (HLs5.out.ev he6)
 clear he6 HLs5
 cases b0
 ·have hv:cl=0:=by rw[HCd.out];rfl
  subst hv
  clear HCd
  go_wp2_with fail
  obtain⟨w7,hw7⟩:∃ w7,w7=w6:=⟨_,rfl⟩
  subst hw7
  have HE7:=HE6
  have HLs7:=HLs6
  obtain⟨g,rfl,hgb,hBg,hRg,k0,z0⟩:=HLs7.out.cells (i:=2*e) (by omega)
  obtain⟨_,e1,_,_,_,k1,z1⟩:=HLs7.out.cells (i:=2*e+1) (by omega)
  cases e1
  have f2:=HLs7.out.c2
  obtain⟨x0,hx0⟩:∃ x,at' s (2*e)=x:=⟨_,rfl⟩
  obtain⟨x1,hx1⟩:∃ x,at' s (2*e+1)=x:=⟨_,rfl⟩
  have HLx:=Lib.hid ((HLs7.out.put (i:=2*e) (by omega) x1).put (i:=2*e+1) (by rw[List.length_set];omega) x0)
  have HEx:=Lib.hid ((HE7.out.setCell (p:=⟨g,2*e,none⟩) hBg hRg (.int .i64 ((x1:Nat):Int))).setCell (p:=⟨g,2*e+1,none⟩) hBg hRg (.int .i64 ((x0:Nat):Int)))
  have hxs:((s.set (2*e) x1).set (2*e+1) x0)=exL s e:=by rw[←hx0,←hx1];rfl
  rw[hxs] at HLx
  rw[hx0] at k0
  rw[hx1] at k1
  have HDn:=Lib.hid (HDo.out _ _ HEx.out.drew _ _ (HLx.out.ev (Ev.refl HEx.out.inv).drew).at HSp.out (exL_length s e) 0 (by omega))
  have i0:((2*e:Nat):Int)<(s.length:Int):=by omega
  have i1:((2*e+1:Nat):Int)<(s.length:Int):=by omega
  have hee:¬ (2*e=2*e+1):=by omega
  clear hx0 hx1 hxs
  go_wp2_with fail
  go_region
  all_goals (go_wp2_with fail)
  all_goals (refine HDn.out.mono ?_)
  all_goals (rintro z w8 ⟨q,R8,rfl,he8,hq⟩)
  all_goals (have HE8:=Lib.hid (HEx.out.drew.trans he8);have HQ:=Lib.hid hq;clear he8 hq)
  all_goals (go_wp2_with fail)
  all_goals go_ret2
  all_goals exact⟨_,R8,rfl,HE8.out,HQ.out⟩
 ·cases b1
  ·have hv:cl=0:=by rw[HCd.out];rfl
   subst hv
   clear HCd
   go_wp2_with fail
   refine (HB1.out _ _ HE6.out _ _ HLs6.out.at).mono ?_
   rintro z w7 ⟨rfl,he7⟩
   have HE7:=Lib.hid (HE6.out.trans he7)
   have HLs7:=Lib.hid (HLs6.out.ev he7)
   clear he7
   obtain⟨g,rfl,hgb,hBg,hRg,k0,z0⟩:=HLs7.out.cells (i:=2*e) (by omega)
   obtain⟨_,e1,_,_,_,k1,z1⟩:=HLs7.out.cells (i:=2*e+1) (by omega)
   cases e1
   have f2:=HLs7.out.c2
   obtain⟨x0,hx0⟩:∃ x,at' s (2*e)=x:=⟨_,rfl⟩
   obtain⟨x1,hx1⟩:∃ x,at' s (2*e+1)=x:=⟨_,rfl⟩
   have HLx:=Lib.hid ((HLs7.out.put (i:=2*e) (by omega) x1).put (i:=2*e+1) (by rw[List.length_set];omega) x0)
   have HEx:=Lib.hid ((HE7.out.setCell (p:=⟨g,2*e,none⟩) hBg hRg (.int .i64 ((x1:Nat):Int))).setCell (p:=⟨g,2*e+1,none⟩) hBg hRg (.int .i64 ((x0:Nat):Int)))
   have hxs:((s.set (2*e) x1).set (2*e+1) x0)=exL s e:=by rw[←hx0,←hx1];rfl
   rw[hxs] at HLx
   rw[hx0] at k0
   rw[hx1] at k1
   have HDn:=Lib.hid (HDo.out _ _ HEx.out.drew _ _ (HLx.out.ev (Ev.refl HEx.out.inv).drew).at HSp.out (exL_length s e) 0 (by omega))
   have i0:((2*e:Nat):Int)<(s.length:Int):=by omega
   have i1:((2*e+1:Nat):Int)<(s.length:Int):=by omega
   have hee:¬ (2*e=2*e+1):=by omega
   clear hx0 hx1 hxs
   go_wp2_with fail
   go_region
   all_goals (go_wp2_with fail)
   all_goals (refine HDn.out.mono ?_)
   all_goals (rintro z w8 ⟨q,R8,rfl,he8,hq⟩)
   all_goals (have HE8:=Lib.hid (HEx.out.drew.trans he8);have HQ:=Lib.hid hq;clear he8 hq)
   all_goals (go_wp2_with fail)
   all_goals go_ret2
   all_goals exact⟨_,R8,rfl,HE8.out,HQ.out⟩
  ·have hv:cl=1:=by rw[HCd.out];rfl
   subst hv
   clear HCd
   go_wp2_with fail
   refine (HB1.out _ _ HE6.out _ _ HLs6.out.at).mono ?_
   rintro z w7 ⟨rfl,he7⟩
   have HE7:=Lib.hid (HE6.out.trans he7)
   have HLs7:=Lib.hid (HLs6.out.ev he7)
   clear he7
   obtain⟨g,rfl,hgb,hBg,hRg,k0,z0⟩:=HLs7.out.cells (i:=2*e) (by omega)
   obtain⟨_,e1,_,_,_,k1,z1⟩:=HLs7.out.cells (i:=2*e+1) (by omega)
   cases e1
   have f2:=HLs7.out.c2
   obtain⟨x0,hx0⟩:∃ x,at' s (2*e)=x:=⟨_,rfl⟩
   obtain⟨x1,hx1⟩:∃ x,at' s (2*e+1)=x:=⟨_,rfl⟩
   have HLx:=Lib.hid ((HLs7.out.put (i:=2*e) (by omega) x1).put (i:=2*e+1) (by rw[List.length_set];omega) x0)
   have HEx:=Lib.hid ((HE7.out.setCell (p:=⟨g,2*e,none⟩) hBg hRg (.int .i64 ((x1:Nat):Int))).setCell (p:=⟨g,2*e+1,none⟩) hBg hRg (.int .i64 ((x0:Nat):Int)))
   have hxs:((s.set (2*e) x1).set (2*e+1) x0)=exL s e:=by rw[←hx0,←hx1];rfl
   rw[hxs] at HLx
   rw[hx0] at k0
   rw[hx1] at k1
   have HDn:=Lib.hid (HDo.out _ _ HEx.out.drew _ _ (HLx.out.ev (Ev.refl HEx.out.inv).drew).at HSp.out (exL_length s e) 1 (by omega))
   have i0:((2*e:Nat):Int)<(s.length:Int):=by omega
   have i1:((2*e+1:Nat):Int)<(s.length:Int):=by omega
   have hee:¬ (2*e=2*e+1):=by omega
   clear hx0 hx1 hxs
   go_wp2_with fail
   go_region
   all_goals (go_wp2_with fail)
   all_goals (refine HDn.out.mono ?_)
   all_goals (rintro z w8 ⟨q,R8,rfl,he8,hq⟩)
   all_goals (have HE8:=Lib.hid (HEx.out.drew.trans he8);have HQ:=Lib.hid hq;clear he8 hq)
   all_goals (go_wp2_with fail)
   all_goals go_ret2
   all_goals exact⟨_,R8,rfl,HE8.out,HQ.out⟩
end
section
set_option linter.unusedVariables false
end
section
set_option linter.unusedVariables false
section
variable {s : List Nat} (hs : IsPerm s)
include hs
end
end
section
set_option linter.unusedVariables false
theorem it_itf (s:List Nat):∀ (j x:Nat),it s j x=itf (at' s) j x
 | 0,_=>rfl
 | j+1,x=>it_itf s j (at' s x)
theorem sizesL_tally {s:List Nat} (hs:IsPerm s):(sizesL s).length=tally (Least (cyc s.length (at' s))) s.length:=by
 have h1:=sizesGo_length hs s.length (Nat.le_refl _)
 have h2:=(namesL_ord hs).cnt_eq (Nat.le_refl s.length)
 have e:sizesGo s s.length=sizesL s:=by unfold sizesGo sizesL;rw[List.take_of_length_le (by rw[namesL_length];exact Nat.le_refl _)]
 rw[←e,h1]
 exact h2
section
variable {p n : Nat} {r q : Nat → Nat → Prop} {P : Nat → Prop} (hr : Per p r) (hq : Per n q) (f : Nat → Nat)
 (hf:∀ x,x<p→f x<n∧P (f x)) (hb:∀ y,y<n→P y→∃ x,x<p∧q (f x) y) (hP:∀ x y,P x→q x y→P y) (hrq:∀ x y,x<p→y<p→(r x y↔q (f x) (f y)))
include hr hq hf hb hP hrq
end
section
variable {s : List Nat} (hs : IsPerm s) {e : Nat} (hn : 2 * e + 2 ≤ s.length)
include hs hn
end
end
section
set_option linter.unusedVariables false
def sumK (f:Nat→Nat):Nat→Nat
 | 0=>0
 | k+1=>sumK f k+f k
theorem sum_tally {N:Nat→Int} {p:Nat→Prop} {n C:Nat} (h0:∀ d,d<n→0≤N d∧N d<(C:Int)):sumK (fun k=>tally (fun d=>N d=(k:Int)∧p d) n) C=tally p n:=by
 have key:∀ c,sumK (fun k=>tally (fun d=>N d=(k:Int)∧p d) n) c=tally (fun d=>p d∧N d<(c:Int)) n:=fun c=>by
  induction c with
  | zero=>exact (tally_none fun d hd h=>by have:=(h0 d hd).1;have:=h.2;omega).symm
  | succ c ih=>
   show sumK _ c+_=_
   rw[ih,tally_split (fun d=>p d∧N d<((c+1:Nat):Int)) (fun d=>N d<(c:Int))]
   congr 1
   ·exact tally_congr fun d _=>⟨fun h=>⟨⟨h.1,by omega⟩,h.2⟩,fun h=>⟨h.1.1,h.2⟩⟩
   ·exact tally_congr fun d _=>⟨fun h=>⟨⟨h.2,by omega⟩,by omega⟩,fun h=>⟨by omega,h.1.1⟩⟩
 rw[key]
 exact tally_congr fun d hd=>⟨fun h=>h.1,fun h=>⟨h,(h0 d hd).2⟩⟩
theorem genus_total {s:List Nat} (hs:IsPerm s) (he:s.length % 2=0):2*genusL s=2*(partsN s:Int)-((sizesL s).length:Nat)+((s.length / 2:Nat):Int)-((sizesL (phiL s)).length:Nat):=by
 have hp:=phiL_perm hs he
 have hN:∀ d,d<s.length→0≤nth (partsL s) d∧nth (partsL s) d<((partsN s:Nat):Int):=fun d hd=>partsL_lt hs he hd
 have h1:sumK (fun k=>vcnt s (partsL s) (k:Int) s.length) (partsN s)=(sizesL s).length:=by
  rw[sizesL_tally hs,←sum_tally (p:=Least (cyc s.length (at' s))) hN]
  congr 1
  funext k
  exact vcnt_tally hs (partsL s) k (Nat.le_refl _)
 have h2:sumK (fun k=>vcnt (phiL s) (partsL s) (k:Int) s.length) (partsN s)=(sizesL (phiL s)).length:=by
  rw[sizesL_tally hp,phiL_length,←sum_tally (p:=Least (cyc s.length (at' (phiL s)))) hN]
  congr 1
  funext k
  have:=vcnt_tally hp (partsL s) k (j:=s.length) (by rw[phiL_length];exact Nat.le_refl _)
  rw[phiL_length] at this
  exact this
 have h3:sumK (fun k=>ecnt (partsL s) (k:Int) s.length) (partsN s)=s.length / 2:=by
  have e:∀ k:Nat,ecnt (partsL s) (k:Int) s.length=tally (fun e=>nth (partsL s) (2*e)=(k:Int)∧True) (s.length / 2):=fun k=>by
   have:=(edges_tally (s:=s) (k:Int) (fun x hx=>partsL_mate hs he hx) (e:=s.length / 2) (by omega)).1
   rw[show 2*(s.length / 2)=s.length by omega] at this
   rw[this]
   exact tally_congr fun d _=>⟨fun h=>⟨h,trivial⟩,fun h=>h.1⟩
  rw[show (fun k:Nat=>ecnt (partsL s) (k:Int) s.length)=fun k:Nat=>tally (fun e=>nth (partsL s) (2*e)=(k:Int)∧True) (s.length / 2) from funext e,
   sum_tally (N:=fun e=>nth (partsL s) (2*e)) (p:=fun _=>True) (n:=s.length / 2) (C:=partsN s) fun d hd=>hN (2*d) (by omega)]
  exact tally_all fun _ _=>trivial
 have key:∀ c,c≤partsN s→2*genusTo s c=2*(c:Int)-(sumK (fun k=>vcnt s (partsL s) (k:Int) s.length) c:Nat)+(sumK (fun k=>ecnt (partsL s) (k:Int) s.length) c:Nat)-(sumK (fun k=>vcnt (phiL s) (partsL s) (k:Int) s.length) c:Nat):=fun c=>by
  induction c with
  | zero=>intro _;rfl
  | succ c ih=>
   intro hc
   have ih:=ih (by omega)
   have hg:=(genOf_euler hs he (k:=c) (by omega)).2
   show 2*(genusTo s c+genOf s (partsL s) c)=_
   simp only[sumK]
   omega
 have:=key (partsN s) (Nat.le_refl _)
 rw[h1,h2,h3] at this
 exact this
section
variable {p n : Nat} {r q : Nat → Nat → Prop} {P' P : Nat → Prop} (hr : Per p r) (hq : Per n q) (f : Nat → Nat)
 (hf:∀ x,x<p→P' x→f x<n∧P (f x)) (hb:∀ y,y<n→P y→∃ x,x<p∧P' x∧q (f x) y) (hP:∀ x y,P x→q x y→P y) (hP':∀ x y,P' x→r x y→P' y) (hfl:∀ x,x<p→f x<n) (hrq:∀ x y,x<p→y<p→(r x y↔q (f x) (f y)))
include hr hq hf hb hP hP' hfl hrq
end
section
variable {s t : List Nat} (hs : IsPerm s) (ht : IsPerm t) (hl : t.length = s.length)
include hs ht hl
end
section
variable {s t : List Nat} (hs : IsPerm s) (he : s.length % 2 = 0) (ht : IsPerm t) (hl : t.length = s.length) (hm : Mates t)
include hs he ht hl hm
end
end
end Go.Proofs.YtklkgicjfnbndaaGreat
