/- euler.Doubles, Simple. -/
import Derived.Test.YtklkgicjfnbndaaGreatZScriptDoes21
import Derived.Test.YtklkgicjfnbndaaGreatZScriptDoes23
import Derived.Test.YtklkgicjfnbndaaGreatZScriptDoes04
import Derived.Test.YtklkgicjfnbndaaGreatZScriptDoes14
namespace Go.Proofs.YtklkgicjfnbndaaGreat
section
open Go.RowKit Go.Maps
set_option linter.unusedVariables false
end
section
open Go.RowKit
set_option linter.unusedVariables false
end
section
set_option linter.unusedVariables false
theorem invL_length (s:List Nat):(invL s).length=s.length:=by unfold invL;rw[invGo_length]
theorem invL_perm {s:List Nat} (hs:IsPerm s):IsPerm (invL s):=by
 refine IsPerm.of_inj (fun i hi=>?_) (fun i j hi hj e=>?_)
 ·rw[invL_length] at hi ⊢
  exact (at_invL hs hi).2
 ·rw[invL_length] at hi hj
  rw[←(at_invL hs hi).1,←(at_invL hs hj).1,e]
section
variable {s : List Nat} (hs : IsPerm s) (he : s.length % 2 = 0)
include hs
include he
end
end
section
open Go.RowKit
set_option linter.unusedVariables false
def fillL (f:Nat→Int) (n i:Nat):List Int:=(List.range n).map fun j=>if j<i then f j else 0
theorem fillL_length (f:Nat→Int) (n i:Nat):(fillL f n i).length=n:=by simp[fillL]
theorem fillL_zero (f:Nat→Int) (n:Nat):fillL f n 0=List.replicate n 0:=by
 refine List.ext_getElem (by simp[fillL]) fun i h1 h2=>?_
 simp[fillL]
theorem fillL_set (f:Nat→Int) {n i:Nat} (hi:i<n):(fillL f n i).set i (f i)=fillL f n (i+1):=by
 refine List.ext_getElem (by simp[fillL]) fun j h1 h2=>?_
 rw[List.getElem_set]
 by_cases e:i=j
 ·subst e;simp[fillL]
 ·rw[if_neg e]
  simp only[fillL,List.getElem_map,List.getElem_range]
  by_cases h:j<i
  ·rw[if_pos h,if_pos (by omega)]
  ·rw[if_neg h,if_neg (by omega)]
theorem fillL_all (s:List Nat):fillL (fun j=>((at' s j:Nat):Int)) s.length s.length=toI s:=by
 refine List.ext_getElem (by simp[fillL,toI]) fun j h1 h2=>?_
 rw[fillL_length] at h1
 simp[fillL,toI,at',h1]
def RetDm (R:Reg) (w:World) (S:List Nat) (root lone:Int) (e:Ending) (w':World):Prop:=
 ∃ p R',e=.returned p∧Ev R w R' w'∧MapAt R' p S root lone
theorem MapOk.of_len {s t:List Nat} {root lone:Int} (h:MapOk s root lone) (e:t.length=s.length):MapOk t root lone:=by
 unfold MapOk at *;rw[e];exact h
set_option maxRecDepth 100000 in
set_option maxHeartbeats 2000000 in
theorem with_phi (R:Reg) (w:World) (hI:Inv R w) (p:Value) (s:List Nat) (root lone:Int) (hp:MapAt R p s root lone):
  Calls Tryz.prog 134 #[p,.func (.func 54) #[p] #[]] w (RetDm R w (phiL s) root lone):=by
 obtain⟨hS,hok⟩:=hp.ok hI
 have hSl:(phiL s).length=s.length:=phiL_length s
 have hSp:IsPerm (phiL s):=phiL_perm hS hok.1
 have hn:=hok.2.1
 have HPh:=Lib.hid (fun R' w' (he:Ev R w R' w') (i:Nat) (hi:i<s.length)=>(by
  have:=phi_any R' w' he.inv p s root lone (he.map hp) (i:Int)
  rw[atI_in (by rw[phiL_length];exact hi)] at this
  exact this:Calls Tryz.prog 54 #[p,.int .i64 (i:Int)] w' _))
 have HD:=Lib.hid (darts_any R w hI p s root lone hp)
 have HRt:=Lib.hid (fun R' w' (he:Ev R w R' w')=>root_any R' w' he.inv p s root lone (he.map hp))
 have HLn:=Lib.hid (fun R' w' (he:Ev R w R' w')=>lone_any R' w' he.inv p s root lone (he.map hp))
 have HFa:=Lib.hid (fillL_all (phiL s))
 have HOk:=Lib.hid (hok.of_len hSl)
 obtain⟨n,hl⟩:∃ n,s.length=n:=⟨_,rfl⟩
 have HSl:=Lib.hid (hSl.trans hl)
 have HSp:=Lib.hid hSp
 obtain⟨T,hT⟩:∃ T,phiL s=T:=⟨_,rfl⟩
 rw[hT] at HFa HOk HSl HSp HPh ⊢
 rw[hl] at HPh HD hn
 rw[HSl.out] at HFa
 have HI:=Lib.hid hI
 obtain⟨i0,hi,hz0,hz1,hz2⟩:=info_parts int_info
 obtain⟨b,rfl,hb⟩:=hp
 clear hI hS hok hSl hSp hb hT hl
 go_enter Tryz.func134,Tryz.ntmps134
 go_wp2_with (first|(go_at_call 18;refine HD.out.mono ?_;rintro e w' ⟨rfl,rfl⟩)|(refine wpList_make_full _ rfl _ _ 25 rfl w.heap.size 3 i0 (.int .i64 0) 1 Tryz.underlying25 hi hz0 hz1 .i64 .i64 (n:Int) (n:Int) n rfl rfl rfl rfl ?q1 ?q2 (Nat.le_refl _) ?_))
 case q1=>rw[hz2];omega
 case q2=>unfold maxLen;omega
 intro w1 ho1 hg1
 have hown:OwnI R w.heap.size 3 w1 (.slice (some ⟨w.heap.size,0,none⟩) n n) (List.replicate n 0):=OwnI.made HI.out ho1
 have he1:Ev R w R w1:=(Ev.refl HI.out).grown hg1 (by simp)
 have HO1:=Lib.hid hown
 have HE1:=Lib.hid he1
 clear ho1 hg1 hown he1
 go_wp2_with fail
 obtain⟨g5,hg5⟩:∃ g,w.heap.size=g:=⟨_,rfl⟩
 rw[hg5] at HO1 ⊢
 have HG5:=Lib.hid hg5
 go_loopg [16] n (fun g v16 wr=>∃ (i:Nat) (Rr:Reg),i≤n∧n-i≤g∧v16=.int .i64 (i:Int)∧Ev R w Rr wr∧OwnI Rr g5 3 wr (.slice (some ⟨g5,0,none⟩) n n) (fillL (fun j=>((at' T j:Nat):Int)) n i))
 case atStart=>exact⟨0,R,Nat.zero_le _,by omega,rfl,HE1.out,by rw[fillL_zero];exact HO1.out⟩
 case round=>
  obtain⟨i,Rr,hin,hg,rfl,he,ho⟩:=hrel
  have HE:=Lib.hid he
  have HO:=Lib.hid ho
  clear he ho
  by_cases hil:i<n
  ·go_wp2_with fail
   refine (HPh.out _ _ HE.out i hil).mono ?_
   rintro e w' ⟨rfl,rfl⟩
   obtain⟨Rq,hRq⟩:∃ Rq,Rq=Rr:=⟨_,rfl⟩
   subst hRq
   have HE2:=HE
   have HO2:=HO
   obtain⟨_,e5,hB5,hR5,hc5,hz5⟩:=HO2.out.headAt (fillL_length _ _ _) hil
   cases e5
   have hst:=HO2.out.put (fillL_length _ _ _) i hil ((at' T i:Nat):Int)
   rw[show ((at' T i:Nat):Int)=(fun j=>((at' T j:Nat):Int)) i from rfl,fillL_set _ hil] at hst
   have HST:=Lib.hid hst
   clear hst
   go_wp2_with fail
   go_roundg (n-(i+1))
   case measure=>omega
   case rel=>exact⟨i+1,Rq,by omega,by omega,by go_num,HE2.out.setCell (by show w.heap.size≤g5;rw[HG5.out];exact Nat.le_refl _) hR5 _,HST.out⟩
  ·obtain rfl:i=n:=by omega
   have hf:=HO.out.free
   rw[HFa.out] at hf
   have hnew:=new_yes Rr wr HE.out.inv _ T hf root lone HSp.out HOk.out
   have HN:=Lib.hid hnew
   have HRt2:=Lib.hid (HRt.out _ _ HE.out)
   have HLn2:=Lib.hid (HLn.out _ _ HE.out)
   clear hf hnew
   go_wp2_with fail
   refine HRt2.out.mono ?_
   rintro e w' ⟨rfl,rfl⟩
   go_wp2_with fail
   refine HLn2.out.mono ?_
   rintro e w' ⟨rfl,rfl⟩
   go_wp2_with fail
   refine HN.out.mono ?_
   rintro e w2 ⟨q,R2,rfl,he2,hq⟩
   have HE2:=Lib.hid (HE.out.trans he2)
   have HQ:=Lib.hid hq
   clear he2 hq
   go_wp2_with fail
   go_ret
   exact⟨_,R2,rfl,HE2.out,HQ.out⟩
set_option maxRecDepth 100000 in
set_option maxHeartbeats 2000000 in
theorem with_back (R:Reg) (w:World) (hI:Inv R w) (p:Value) (s:List Nat) (root lone:Int) (hp:MapAt R p s root lone):
  Calls Tryz.prog 134 #[p,.func (.func 59) #[p] #[]] w (RetDm R w (invL s) root lone):=by
 obtain⟨hS,hok⟩:=hp.ok hI
 have hSl:(invL s).length=s.length:=invL_length s
 have hSp:IsPerm (invL s):=invL_perm hS
 have hn:=hok.2.1
 have HPh:=Lib.hid (fun R' w' (he:Ev R w R' w') (i:Nat) (hi:i<s.length)=>(by
  have:=mback_any R' w' he.inv p s root lone (he.map hp) (i:Int)
  rw[backI_in hi] at this
  exact this:Calls Tryz.prog 59 #[p,.int .i64 (i:Int)] w' _))
 have HD:=Lib.hid (darts_any R w hI p s root lone hp)
 have HRt:=Lib.hid (fun R' w' (he:Ev R w R' w')=>root_any R' w' he.inv p s root lone (he.map hp))
 have HLn:=Lib.hid (fun R' w' (he:Ev R w R' w')=>lone_any R' w' he.inv p s root lone (he.map hp))
 have HFa:=Lib.hid (fillL_all (invL s))
 have HOk:=Lib.hid (hok.of_len hSl)
 obtain⟨n,hl⟩:∃ n,s.length=n:=⟨_,rfl⟩
 have HSl:=Lib.hid (hSl.trans hl)
 have HSp:=Lib.hid hSp
 obtain⟨T,hT⟩:∃ T,invL s=T:=⟨_,rfl⟩
 rw[hT] at HFa HOk HSl HSp HPh ⊢
 rw[hl] at HPh HD hn
 rw[HSl.out] at HFa
 have HI:=Lib.hid hI
 obtain⟨i0,hi,hz0,hz1,hz2⟩:=info_parts int_info
 obtain⟨b,rfl,hb⟩:=hp
 clear hI hS hok hSl hSp hb hT hl
 go_enter Tryz.func134,Tryz.ntmps134
 go_wp2_with (first|(go_at_call 18;refine HD.out.mono ?_;rintro e w' ⟨rfl,rfl⟩)|(refine wpList_make_full _ rfl _ _ 25 rfl w.heap.size 3 i0 (.int .i64 0) 1 Tryz.underlying25 hi hz0 hz1 .i64 .i64 (n:Int) (n:Int) n rfl rfl rfl rfl ?q1 ?q2 (Nat.le_refl _) ?_))
 case q1=>rw[hz2];omega
 case q2=>unfold maxLen;omega
 intro w1 ho1 hg1
 have hown:OwnI R w.heap.size 3 w1 (.slice (some ⟨w.heap.size,0,none⟩) n n) (List.replicate n 0):=OwnI.made HI.out ho1
 have he1:Ev R w R w1:=(Ev.refl HI.out).grown hg1 (by simp)
 have HO1:=Lib.hid hown
 have HE1:=Lib.hid he1
 clear ho1 hg1 hown he1
 go_wp2_with fail
 obtain⟨g5,hg5⟩:∃ g,w.heap.size=g:=⟨_,rfl⟩
 rw[hg5] at HO1 ⊢
 have HG5:=Lib.hid hg5
 go_loopg [16] n (fun g v16 wr=>∃ (i:Nat) (Rr:Reg),i≤n∧n-i≤g∧v16=.int .i64 (i:Int)∧Ev R w Rr wr∧OwnI Rr g5 3 wr (.slice (some ⟨g5,0,none⟩) n n) (fillL (fun j=>((at' T j:Nat):Int)) n i))
 case atStart=>exact⟨0,R,Nat.zero_le _,by omega,rfl,HE1.out,by rw[fillL_zero];exact HO1.out⟩
 case round=>
  obtain⟨i,Rr,hin,hg,rfl,he,ho⟩:=hrel
  have HE:=Lib.hid he
  have HO:=Lib.hid ho
  clear he ho
  by_cases hil:i<n
  ·go_wp2_with fail
   refine (HPh.out _ _ HE.out i hil).mono ?_
   rintro e w' ⟨rfl,Rq,he2⟩
   have HE2:=Lib.hid (HE.out.trans he2)
   have HO2:=Lib.hid (HO.out.ev he2)
   clear he2
   obtain⟨_,e5,hB5,hR5,hc5,hz5⟩:=HO2.out.headAt (fillL_length _ _ _) hil
   cases e5
   have hst:=HO2.out.put (fillL_length _ _ _) i hil ((at' T i:Nat):Int)
   rw[show ((at' T i:Nat):Int)=(fun j=>((at' T j:Nat):Int)) i from rfl,fillL_set _ hil] at hst
   have HST:=Lib.hid hst
   clear hst
   go_wp2_with fail
   go_roundg (n-(i+1))
   case measure=>omega
   case rel=>exact⟨i+1,Rq,by omega,by omega,by go_num,HE2.out.setCell (by show w.heap.size≤g5;rw[HG5.out];exact Nat.le_refl _) hR5 _,HST.out⟩
  ·obtain rfl:i=n:=by omega
   have hf:=HO.out.free
   rw[HFa.out] at hf
   have hnew:=new_yes Rr wr HE.out.inv _ T hf root lone HSp.out HOk.out
   have HN:=Lib.hid hnew
   have HRt2:=Lib.hid (HRt.out _ _ HE.out)
   have HLn2:=Lib.hid (HLn.out _ _ HE.out)
   clear hf hnew
   go_wp2_with fail
   refine HRt2.out.mono ?_
   rintro e w' ⟨rfl,rfl⟩
   go_wp2_with fail
   refine HLn2.out.mono ?_
   rintro e w' ⟨rfl,rfl⟩
   go_wp2_with fail
   refine HN.out.mono ?_
   rintro e w2 ⟨q,R2,rfl,he2,hq⟩
   have HE2:=Lib.hid (HE.out.trans he2)
   have HQ:=Lib.hid hq
   clear he2 hq
   go_wp2_with fail
   go_ret
   exact⟨_,R2,rfl,HE2.out,HQ.out⟩
set_option maxRecDepth 100000 in
theorem dual_any (R:Reg) (w:World) (hI:Inv R w) (p:Value) (s:List Nat) (root lone:Int) (hp:MapAt R p s root lone):
  Calls Tryz.prog 109 #[p] w (RetDm R w (phiL s) root lone):=by
 have HW:=Lib.hid (with_phi R w hI p s root lone hp)
 have hmf:=makeFunc_run
 obtain⟨b,rfl,hb⟩:=hp
 clear hI hb
 go_enter Tryz.func109,Tryz.ntmps109
 go_wp2_with fail
 refine HW.out.mono ?_
 rintro e w' ⟨q,R',rfl,he,hq⟩
 have HE:=Lib.hid he
 have HQ:=Lib.hid hq
 clear he hq
 go_wp2_with fail
 go_ret
 exact⟨_,R',rfl,HE.out,HQ.out⟩
set_option maxRecDepth 100000 in
theorem mirror_any (R:Reg) (w:World) (hI:Inv R w) (p:Value) (s:List Nat) (root lone:Int) (hp:MapAt R p s root lone):
  Calls Tryz.prog 110 #[p] w (RetDm R w (invL s) root lone):=by
 have HW:=Lib.hid (with_back R w hI p s root lone hp)
 have hmf:=makeFunc_run
 obtain⟨b,rfl,hb⟩:=hp
 clear hI hb
 go_enter Tryz.func110,Tryz.ntmps110
 go_wp2_with fail
 refine HW.out.mono ?_
 rintro e w' ⟨q,R',rfl,he,hq⟩
 have HE:=Lib.hid he
 have HQ:=Lib.hid hq
 clear he hq
 go_wp2_with fail
 go_ret
 exact⟨_,R',rfl,HE.out,HQ.out⟩
end
section
set_option linter.unusedVariables false
def nmL (e d:Nat):Nat:=if 2*e<d then d-2 else d
def unL (e j:Nat):Nat:=if j<2*e then j else j+2
def passF (t:List Nat) (e:Nat):Nat→Nat→Nat
 | 0,d=>d
 | f+1,d=>if d / 2=e then passF t e f (at' t d) else d
def passN (t:List Nat) (e d:Nat):Nat:=passF t e 2 d
def doneL (t:List Nat) (e:Nat):List Nat:=(List.range (t.length-2)).map fun j=>nmL e (passN t e (at' t (unL e j)))
def rootGo (s:List Nat) (e:Nat):Nat→Nat→Nat
 | 0,_=>0
 | f+1,d=>if d / 2=e then rootGo s e f (at' (invL s) d) else nmL e d
def rootL (s:List Nat) (e root:Nat):Int:=if s.length=2 then -1 else ((rootGo s e s.length root:Nat):Int)
theorem doneL_length (t:List Nat) (e:Nat):(doneL t e).length=t.length-2:=by simp[doneL]
theorem doneL_at {t:List Nat} {e j:Nat} (hj:j<t.length-2):at' (doneL t e) j=nmL e (passN t e (at' t (unL e j))):=by simp[doneL,at',hj]
theorem unL_own {e j:Nat}:¬ unL e j / 2=e:=by unfold unL;split <;> omega
theorem unL_lt {e j n:Nat} (hn:2*e+2≤n) (hj:j<n-2):unL e j<n:=by unfold unL;split <;> omega
theorem unL_inj {e i j:Nat} (h:unL e i=unL e j):i=j:=by unfold unL at h;split at h <;> split at h <;> omega
theorem nm_un (e j:Nat):nmL e (unL e j)=j:=by unfold nmL unL;split <;> split <;> omega
theorem un_nm {e d:Nat} (h:¬ d / 2=e):unL e (nmL e d)=d:=by unfold nmL unL;split <;> split <;> omega
theorem nmL_lt {e d n:Nat} (hn:2*e+2≤n) (h:¬ d / 2=e) (hd:d<n):nmL e d<n-2:=by unfold nmL;split <;> omega
theorem nmL_inj {e c d:Nat} (hc:¬ c / 2=e) (hd:¬ d / 2=e) (h:nmL e c=nmL e d):c=d:=by rw[←un_nm hc,←un_nm hd,h]
theorem pass_cases (t:List Nat) (e x:Nat):(¬ x / 2=e∧passN t e x=x)∨(x / 2=e∧¬ at' t x / 2=e∧passN t e x=at' t x)∨(x / 2=e∧at' t x / 2=e∧passN t e x=at' t (at' t x)):=by
 unfold passN
 by_cases h:x / 2=e
 ·by_cases h2:at' t x / 2=e
  ·exact Or.inr (Or.inr ⟨h,h2,by simp[passF,h,h2]⟩)
  ·exact Or.inr (Or.inl ⟨h,h2,by simp[passF,h,h2]⟩)
 ·exact Or.inl ⟨h,by simp[passF,h]⟩
section
variable {t : List Nat} (ht : IsPerm t) {e : Nat}
include ht
theorem pass_ok {d:Nat} (hd:d<t.length) (ho:¬ d / 2=e):¬ passN t e (at' t d) / 2=e∧passN t e (at' t d)<t.length:=by
 have h1:=ht.lt hd
 have h2:=ht.lt h1
 have h3:=ht.lt h2
 rcases pass_cases t e (at' t d) with ⟨a,b⟩|⟨a,a2,b⟩|⟨a,a2,b⟩
 ·rw[b];exact⟨a,h1⟩
 ·rw[b];exact⟨a2,h2⟩
 ·rw[b]
  refine⟨fun a3=>?_,h3⟩
  by_cases e1:at' t d=at' t (at' t d)
  ·have:=ht.inj hd h1 e1
   rw[this] at ho
   exact ho a
  ·by_cases e2:at' t (at' t d)=at' t (at' t (at' t d))
   ·exact e1 (ht.inj h1 h2 e2)
   ·have e3:at' t d=at' t (at' t (at' t d)):=by omega
    have:=ht.inj hd h2 e3
    rw[this] at ho
    exact ho a2
theorem pass_inj {c d:Nat} (hc:c<t.length) (hd:d<t.length) (oc:¬ c / 2=e) (od:¬ d / 2=e) (h:passN t e (at' t c)=passN t e (at' t d)):c=d:=by
 have c1:=ht.lt hc
 have d1:=ht.lt hd
 have c2:=ht.lt c1
 have d2:=ht.lt d1
 rcases pass_cases t e (at' t c) with ⟨a,b⟩|⟨a,a2,b⟩|⟨a,a2,b⟩ <;> rcases pass_cases t e (at' t d) with ⟨p,q⟩|⟨p,p2,q⟩|⟨p,p2,q⟩ <;> rw[b,q] at h
 ·exact ht.inj hc hd h
 ·exact absurd p (by rw[←ht.inj hc d1 h];exact oc)
 ·exact absurd p2 (by rw[←ht.inj hc d2 h];exact oc)
 ·exact absurd a (by rw[ht.inj c1 hd h];exact od)
 ·exact ht.inj hc hd (ht.inj c1 d1 h)
 ·exact absurd p (by rw[←ht.inj hc d1 (ht.inj c1 d2 h)];exact oc)
 ·exact absurd a2 (by rw[ht.inj c2 hd h];exact od)
 ·exact absurd a (by rw[ht.inj c1 hd (ht.inj c2 d1 h)];exact od)
 ·exact ht.inj hc hd (ht.inj c1 d1 (ht.inj c2 d2 h))
theorem doneL_perm (hn:2*e+2≤t.length):IsPerm (doneL t e):=by
 refine IsPerm.of_inj (fun i hi=>?_) (fun i j hi hj h=>?_)
 ·rw[doneL_length] at hi ⊢
  obtain⟨h1,h2⟩:=pass_ok ht (unL_lt hn hi) unL_own
  rw[doneL_at hi]
  exact nmL_lt hn h1 h2
 ·rw[doneL_length] at hi hj
  rw[doneL_at hi,doneL_at hj] at h
  have h1:=(pass_ok ht (unL_lt hn hi) unL_own).1
  have h2:=(pass_ok ht (unL_lt hn hj) unL_own).1
  exact unL_inj (pass_inj ht (unL_lt hn hi) (unL_lt hn hj) unL_own unL_own (nmL_inj h1 h2 h))
theorem rootGo_lt (hn:2*e+2≤t.length) (h4:4≤t.length):∀ (f:Nat) {d:Nat},d<t.length→rootGo t e f d<t.length-2
 | 0,d,_=>by show 0<_;omega
 | f+1,d,hd=>by
  unfold rootGo
  by_cases h:d / 2=e
  ·rw[if_pos h]
   exact rootGo_lt hn h4 f (at_invL ht hd).2
  ·rw[if_neg h]
   exact nmL_lt hn h hd
end
theorem MapOk.less {s t:List Nat} {root lone:Int} (h:MapOk s root lone) (hs:IsPerm s) (e:t.length=s.length) {k:Nat} (hk:2*k+2≤s.length) {l:Int} (hl:0≤l∧lone+l≤65536):MapOk (doneL t k) (rootL s k root.toNat) (lone+l):=by
 obtain⟨h1,h2,h3,h4,h5⟩:=h
 have hd:=doneL_length t k
 refine⟨by omega,by omega,by omega,hl.2,?_⟩
 unfold rootL
 by_cases h6:s.length=2
 ·rw[if_pos h6];left;omega
 ·rw[if_neg h6];right
  have hr:root.toNat<s.length:=by omega
  have:=rootGo_lt hs hk (by omega) s.length hr
  omega
end
end Go.Proofs.YtklkgicjfnbndaaGreat
