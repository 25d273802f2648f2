/- What was grown is cut, or shrunk, away again. Plain law. Conditions: the list is a turn, the darts are there. -/
import Derived.Test.YtklkgicjfnbndaaGreatZU41
import Derived.Test.YtklkgicjfnbndaaGreatZU24
namespace Go.Proofs.YtklkgicjfnbndaaGreat
section
set_option linter.unusedVariables false
theorem last_pass {t:List Nat} {e x:Nat} (hx:x<2*e):passN t e x=x:=by
 unfold passN passF
 rw[if_neg (by omega)]
theorem last_pass1 {t:List Nat} {e x y:Nat} (hx:x / 2=e) (h:at' t x=y) (hy:y<2*e):passN t e x=y:=by
 unfold passN passF
 rw[if_pos hx,h]
 unfold passF
 rw[if_neg (by omega)]
theorem last_pass2 {t:List Nat} {e x x' y:Nat} (hx:x / 2=e) (h:at' t x=x') (hx':x' / 2=e) (h':at' t x'=y):passN t e x=y:=by
 unfold passN passF
 rw[if_pos hx,h]
 unfold passF
 rw[if_pos hx',h']
 rfl
theorem done_last {t s:List Nat} {e:Nat} (hs:IsPerm s) (hl:t.length=s.length+2) (h2:s.length=2*e) (h:∀ j,j<s.length→passN t e (at' t j)=at' s j):doneL t e=s:=by
 have hdl:(doneL t e).length=s.length:=by rw[doneL_length,hl];omega
 refine List.ext_getElem hdl fun j h1 h3=>?_
 rw[←at'_eq h1,←at'_eq h3,doneL_at (by omega)]
 have hu:unL e j=j:=by unfold unL;rw[if_pos (by omega)]
 rw[hu,h j h3]
 have:=hs.lt h3
 unfold nmL
 rw[if_neg (by omega)]
theorem root_last {t s:List Nat} {e root:Nat} (hl:t.length=s.length+2) (h2:s.length=2*e) (hr:root<s.length):rootL t e root=(root:Int):=by
 unfold rootL
 rw[if_neg (by omega),hl]
 unfold rootGo
 rw[if_neg (by omega)]
 unfold nmL
 rw[if_neg (by omega)]
theorem own_not {e y:Nat} {xs:List Nat} (hy:y∈xs) (h:¬ y / 2=e):ownB e xs=false:=by
 unfold ownB
 rw[List.all_eq_false]
 exact⟨y,hy,by simpa using h⟩
theorem bare_not {t:List Nat} (ht:IsPerm t) {e x y:Nat} (hx:x<t.length) (j:Nat) (hj:it t j x=y) (h:¬ y / 2=e):bareB t e x=false:=
 own_not ((ht.mem_orbit hx).2 ⟨j,hj⟩) h
theorem names_ne_of {t:List Nat} (ht:IsPerm t) (v:Nat→Nat) (hv:∀ x,x<t.length→v (at' t x)=v x) {a b:Nat} (ha:a<t.length) (hb:b<t.length) (h:v a≠v b):nth (namesL t) a≠nth (namesL t) b:=fun e=>by
 obtain⟨_,_,j,hj⟩:=(cyc_at ht).2 ⟨ha,hb,e⟩
 have go:∀ j,itf (at' t) j a<t.length∧v (itf (at' t) j a)=v a:=by
  intro j
  induction j with
  | zero=>exact⟨ha,rfl⟩
  | succ j ih=>rw[itf_succ];exact⟨ht.lt ih.1,by rw[hv _ ih.1,ih.2]⟩
 apply h
 rw[←hj]
 exact (go j).2.symm
theorem ex_low {t:List Nat} {e j:Nat} (hj:j<2*e):at' (exL t e) j=at' t j:=by
 unfold exL
 by_cases h:2*e+1<t.length
 ·rw[at'_set (by rw[List.length_set];exact h),if_neg (by omega),at'_set (by omega),if_neg (by omega)]
 ·by_cases h':2*e<t.length
  ·rw[List.set_eq_of_length_le (by rw[List.length_set];omega),at'_set h',if_neg (by omega)]
  ·rw[List.set_eq_of_length_le (by rw[List.length_set];omega),List.set_eq_of_length_le (by omega)]
theorem ex_a {t:List Nat} {e:Nat} (h:2*e+1<t.length):at' (exL t e) (2*e)=at' t (2*e+1):=by
 unfold exL
 rw[at'_set (by rw[List.length_set];exact h),if_neg (by omega),at'_set (by omega),if_pos rfl]
theorem ex_b {t:List Nat} {e:Nat} (h:2*e+1<t.length):at' (exL t e) (2*e+1)=at' t (2*e):=by
 unfold exL
 rw[at'_set (by rw[List.length_set];exact h),if_pos rfl]
section
variable {s : List Nat} {e : Nat} (h2 : s.length = 2 * e) {d : Nat} (hd : d < s.length)
include h2 hd
theorem leaf_low {j:Nat} (hj:j<s.length):at' (leafL s d) j=if j=d then 2*e else at' s j:=by
 rw[leaf_at hd (by omega),if_neg (by omega)]
 unfold insF
 split
 ·exact h2
 ·rw[if_neg (by omega)]
theorem leaf_n:at' (leafL s d) (2*e)=at' s d:=by
 rw[leaf_at hd (by omega),if_neg (by omega)]
 unfold insF
 rw[if_neg (by omega),if_pos (by omega)]
theorem leaf_n1:at' (leafL s d) (2*e+1)=2*e+1:=by
 rw[leaf_at hd (by omega),if_pos (by omega),h2]
end
section
variable {s : List Nat} (hs : IsPerm s) {e : Nat} (h2 : s.length = 2 * e) {d : Nat} (hd : d < s.length)
include hs h2 hd
theorem leaf_back:doneL (exL (leafL s d) e) e=s:=by
 have hl:=leafL_length s d
 have hsd:=hs.lt hd
 refine done_last hs (by rw[exL_length,hl]) h2 fun j hj=>?_
 rw[ex_low (by omega),leaf_low h2 hd hj]
 split
 ·rename_i c
  rw[c]
  exact last_pass2 (x':=2*e+1) (by omega) (by rw[ex_a (by omega)];exact leaf_n1 h2 hd) (by omega) (by rw[ex_b (by omega)];exact leaf_n h2 hd)
 ·have:=hs.lt hj
  exact last_pass (by omega)
theorem leaf_lone (ht:IsPerm (leafL s d)):shrLone (leafL s d) e=0:=by
 have hl:=leafL_length s d
 have hsd:=hs.lt hd
 unfold shrLone
 rw[bare_not ht (by omega) 1 (y:=at' s d) (leaf_n h2 hd) (by omega)]
 rfl
end
theorem leaf_ne {s:List Nat} {e:Nat} (h2:s.length=2*e) {d:Nat} (hd:d<s.length) (ht:IsPerm (leafL s d)):nth (namesL (leafL s d)) (2*e)≠nth (namesL (leafL s d)) (2*e+1):=by
 have hl:=leafL_length s d
 refine names_ne_of ht (fun x=>if x=2*e+1 then 1 else 0) (fun x hx=>?_) (by omega) (by omega) (by simp)
 have h1:=leaf_n1 h2 hd
 by_cases c:x=2*e+1
 ·rw[c,h1]
 ·have:at' (leafL s d) x≠2*e+1:=fun e1=>c (ht.inj hx (by omega) (by rw[e1,h1]))
  simp[c,this]
section
variable {s : List Nat} (hs : IsPerm s) (hes : s.length % 2 = 0) {e : Nat} (h2 : s.length = 2 * e) {d : Nat} (hd : d < s.length)
include hs hes h2 hd
theorem split_back:doneL (exL (splitL s d) e) e=s:=by
 have hl:=splitL_length s d
 have hm:=xor_one_lt hes hd
 have at_:=fun {y:Nat} (hy:y<s.length+2)=>split_at hs (rfl:d ^^^ 1=d ^^^ 1) hm hy
 have hsm:=hs.lt hm
 obtain⟨m,hme⟩:∃ m,d ^^^ 1=m:=⟨_,rfl⟩
 rw[hme] at hm at_ hsm
 have tn:at' (splitL s d) (2*e)=m:=by rw[at_ (by omega),if_neg (by omega),if_pos (by omega)]
 have tn1:at' (splitL s d) (2*e+1)=if at' s m=m then 2*e+1 else at' s m:=by rw[at_ (by omega),if_neg (by omega),if_neg (by omega),if_pos (by omega),h2]
 refine done_last hs (by rw[exL_length,hl]) h2 fun j hj=>?_
 rw[ex_low (by omega),at_ (by omega)]
 have hsj:=hs.lt hj
 by_cases c:j=m
 ·rw[if_pos c,c,h2]
  by_cases c2:at' s m=m
  ·rw[if_pos c2] at tn1
   rw[c2]
   exact last_pass2 (x':=2*e+1) (by omega) (by rw[ex_a (by omega)];exact tn1) (by omega) (by rw[ex_b (by omega)];exact tn)
  ·rw[if_neg c2] at tn1
   exact last_pass1 (by omega) (by rw[ex_a (by omega)];exact tn1) (by omega)
 ·rw[if_neg c,if_neg (by omega),if_neg (by omega)]
  by_cases c2:at' s j=m
  ·rw[if_pos c2,c2,h2]
   exact last_pass1 (by omega) (by rw[ex_b (by omega)];exact tn) (by omega)
  ·rw[if_neg c2]
   exact last_pass (by omega)
theorem split_lone (ht:IsPerm (splitL s d)):shrLone (splitL s d) e=0:=by
 have hl:=splitL_length s d
 have hm:=xor_one_lt hes hd
 have tn:at' (splitL s d) (2*e)=d ^^^ 1:=by rw[split_at hs (rfl:d ^^^ 1=d ^^^ 1) hm (by omega),if_neg (by omega),if_pos (by omega)]
 unfold shrLone
 rw[bare_not ht (by omega) 1 (y:=d ^^^ 1) tn (by omega)]
 rfl
theorem split_ne (ht:IsPerm (splitL s d)):nth (namesL (splitL s d)) (2*e)≠nth (namesL (splitL s d)) (2*e+1):=by
 have hl:=splitL_length s d
 have hm:=xor_one_lt hes hd
 have tn:at' (splitL s d) (2*e)=d ^^^ 1:=by rw[split_at hs (rfl:d ^^^ 1=d ^^^ 1) hm (by omega),if_neg (by omega),if_pos (by omega)]
 have tm:at' (splitL s d) (d ^^^ 1)=2*e:=by rw[split_at hs (rfl:d ^^^ 1=d ^^^ 1) hm (by omega),if_pos rfl,h2]
 obtain⟨m,hme⟩:∃ m,d ^^^ 1=m:=⟨_,rfl⟩
 rw[hme] at hm tn tm
 refine names_ne_of ht (fun x=>if x=2*e∨x=m then 1 else 0) (fun x hx=>?_) (by omega) (by omega) ?_
 ·by_cases c:x=2*e
  ·rw[c,tn];simp
  ·by_cases c2:x=m
   ·rw[c2,tm];simp
   ·have n1:at' (splitL s d) x≠2*e:=fun e1=>c2 (ht.inj hx (by omega) (by rw[e1,tm]))
    have n2:at' (splitL s d) x≠m:=fun e1=>c (ht.inj hx (by omega) (by rw[e1,tn]))
    simp[c,c2,n1,n2]
 ·have n1:¬ (2*e+1=m):=by omega
  simp[n1]
end
theorem chord_at {s:List Nat} {d f y:Nat} (hy:y<s.length+2):at' (chordL s d f) y=insF (at' (leafL s d)) (if d=f then s.length else f) (s.length+1) y:=by
 unfold chordL
 exact behind_at (by rw[leafL_length];exact hy)
theorem chord_length (s:List Nat) (d f:Nat):(chordL s d f).length=s.length+2:=by unfold chordL;rw[behindL_length,leafL_length]
theorem chord_vals {s:List Nat} {e:Nat} (h2:s.length=2*e) {d f:Nat} (hd:d<s.length) (hf:f<s.length):(∀ j,j<s.length→at' (chordL s d f) j=if j=d then 2*e else if j=f then 2*e+1 else at' s j)∧(d=f→at' (chordL s d f) (2*e)=2*e+1∧at' (chordL s d f) (2*e+1)=at' s d)∧(d≠f→at' (chordL s d f) (2*e)=at' s d∧at' (chordL s d f) (2*e+1)=at' s f):=by
 refine⟨fun j hj=>?_,fun c=>?_,fun c=>?_⟩
 ·rw[chord_at (by omega)]
  unfold insF
  by_cases c:d=f
  ·rw[if_pos c,if_neg (by omega),if_neg (by omega),leaf_low h2 hd hj]
   split
   ·rfl
   ·rw[if_neg (by omega)]
  ·rw[if_neg c]
   by_cases c2:j=f
   ·rw[if_pos c2,if_neg (by omega),if_pos c2,h2]
   ·rw[if_neg c2,if_neg (by omega),leaf_low h2 hd hj]
    split
    ·rfl
    ·rfl
 ·constructor
  ·rw[chord_at (by omega)]
   unfold insF
   rw[if_pos c,if_pos (by omega),h2]
  ·rw[chord_at (by omega)]
   unfold insF
   rw[if_pos c,if_neg (by omega),if_pos (by omega),h2]
   exact leaf_n h2 hd
 ·constructor
  ·rw[chord_at (by omega)]
   unfold insF
   rw[if_neg c,if_neg (by omega),if_neg (by omega)]
   exact leaf_n h2 hd
  ·rw[chord_at (by omega)]
   unfold insF
   rw[if_neg c,if_neg (by omega),if_pos (by omega),leaf_low h2 hd hf,if_neg (Ne.symm c)]
section
variable {s : List Nat} (hs : IsPerm s) {e : Nat} (h2 : s.length = 2 * e) {d f : Nat} (hd : d < s.length) (hf : f < s.length)
include hs h2 hd hf
theorem chord_back:doneL (chordL s d f) e=s:=by
 have hl:=chord_length s d f
 obtain⟨v1,v2,v3⟩:=chord_vals h2 hd hf
 have hsd:=hs.lt hd
 have hsf:=hs.lt hf
 refine done_last hs hl h2 fun j hj=>?_
 have hsj:=hs.lt hj
 rw[v1 j hj]
 by_cases c:j=d
 ·rw[if_pos c,c]
  by_cases c2:d=f
  ·exact last_pass2 (by omega) (v2 c2).1 (by omega) (v2 c2).2
  ·exact last_pass1 (by omega) (v3 c2).1 (by omega)
 ·rw[if_neg c]
  by_cases c2:j=f
  ·rw[if_pos c2,c2]
   exact last_pass1 (by omega) (v3 (by omega)).2 (by omega)
  ·rw[if_neg c2]
   exact last_pass (by omega)
theorem chord_lone (ht:IsPerm (chordL s d f)):cutLone (chordL s d f) e=0:=by
 have hl:=chord_length s d f
 obtain⟨_,v2,v3⟩:=chord_vals h2 hd hf
 have hsd:=hs.lt hd
 have hsf:=hs.lt hf
 have b1:bareB (chordL s d f) e (2*e)=false:=by
  by_cases c2:d=f
  ·refine bare_not ht (by omega) 2 (y:=at' s d) ?_ (by omega)
   show at' _ (at' _ _)=_
   rw[(v2 c2).1,(v2 c2).2]
  ·exact bare_not ht (by omega) 1 (y:=at' s d) (v3 c2).1 (by omega)
 have b2:bareB (chordL s d f) e (2*e+1)=false:=by
  by_cases c2:d=f
  ·exact bare_not ht (by omega) 1 (y:=at' s d) (v2 c2).2 (by omega)
  ·exact bare_not ht (by omega) 1 (y:=at' s f) (v3 c2).2 (by omega)
 unfold cutLone
 rw[b1,b2,Bool.and_false]
 rfl
end
end
end Go.Proofs.YtklkgicjfnbndaaGreat
