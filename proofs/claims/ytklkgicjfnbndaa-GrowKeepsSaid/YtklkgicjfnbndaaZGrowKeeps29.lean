/- A star in a face: the list is a turn again. -/
import Derived.Test.YtklkgicjfnbndaaZGrowKeeps26
import Derived.Test.YtklkgicjfnbndaaZGrowKeeps07
import Derived.Test.YtklkgicjfnbndaaZGrowKeeps28
import Derived.Test.YtklkgicjfnbndaaZGrowKeeps23
import Derived.Test.YtklkgicjfnbndaaZGrowKeeps27
namespace Go.Proofs.Ytklkgicjfnbndaa
section
set_option linter.unusedVariables false
theorem nodup_inj {α:Type} {l:List α} (h:l.Nodup) {i j:Nat} (hi:i<l.length) (hj:j<l.length) (e:l[i]=l[j]):i=j:=by
 rw[List.nodup_iff_pairwise_ne,List.pairwise_iff_getElem] at h
 rcases Nat.lt_trichotomy i j with h1|h1|h1
 ·exact absurd e (h i j hi hj h1)
 ·exact h1
 ·exact absurd e.symm (h j i hj hi h1)
def starF (s O:List Nat) (j:Nat):Nat:=
 if j<s.length then (if at' s j∈O then s.length+2*O.idxOf (at' s j) else at' s j)
 else if (j-s.length) % 2=0 then at' O ((j-s.length) / 2)
 else s.length+2*(((j-s.length) / 2+O.length-1) % O.length)+1
def starC (s O:List Nat):List Nat:=(List.range (s.length+2*O.length)).map (starF s O)
theorem starC_length (s O:List Nat):(starC s O).length=s.length+2*O.length:=by simp[starC]
theorem starC_at {s O:List Nat} {j:Nat} (h:j<s.length+2*O.length):at' (starC s O) j=starF s O j:=by simp[starC,at',h]
section
variable {s O : List Nat} (hs : IsPerm s) (hO : O.Nodup) (hlt : ∀ x, x ∈ O → x < s.length) (hm : 0 < O.length)
include hs hO hlt hm
end
end
section
set_option linter.unusedVariables false
theorem mem_take_succ {O:List Nat} {i x:Nat} (hi:i<O.length):x∈O.take (i+1)↔x∈O.take i∨x=at' O i:=by
 rw[List.take_succ_eq_append_getElem hi,List.mem_append,List.mem_singleton,at'_eq hi]
theorem not_mem_take {O:List Nat} (hO:O.Nodup) {i:Nat} (hi:i<O.length):at' O i∉O.take i:=fun h=>by
 obtain⟨k,hk,e⟩:=List.getElem_of_mem h
 rw[List.getElem_take] at e
 rw[List.length_take] at hk
 have:=nodup_inj hO (i:=k) (j:=i) (by omega) hi (by rw[e,at'_eq hi])
 omega
theorem idx_at {O:List Nat} (hO:O.Nodup) {i:Nat} (hi:i<O.length):O.idxOf (at' O i)=i:=by
 have hm:at' O i∈O:=by rw[at'_eq hi];exact List.getElem_mem hi
 have h:=List.idxOf_lt_length_of_mem hm
 exact nodup_inj hO h hi (by rw[List.getElem_idxOf h,at'_eq hi])
def putF (s O:List Nat) (i j:Nat):Nat:=
 if j<s.length then (if at' s j∈O.take i then s.length+2*O.idxOf (at' s j) else at' s j)
 else if (j-s.length) / 2<i then starF s O j else 0
def putG (s O:List Nat) (i:Nat):List Nat:=(List.range (s.length+2*O.length)).map (putF s O i)
theorem putG_length (s O:List Nat) (i:Nat):(putG s O i).length=s.length+2*O.length:=by simp[putG]
theorem putG_zero (s O:List Nat):putG s O 0=s ++ List.replicate (2*O.length) 0:=by
 refine List.ext_getElem (by simp[putG]) fun j h1 h2=>?_
 have hj:j<s.length+2*O.length:=by simpa [putG] using h1
 simp only[putG,List.getElem_map,List.getElem_range,putF]
 by_cases hs:j<s.length
 ·rw[if_pos hs,if_neg (by simp),List.getElem_append_left hs,at'_eq hs]
 ·rw[if_neg hs,if_neg (by omega),List.getElem_append_right (by omega)]
  simp
theorem putG_all (s O:List Nat):putG s O O.length=starC s O:=by
 refine List.ext_getElem (by rw[putG_length,starC_length]) fun j h1 h2=>?_
 have hj:j<s.length+2*O.length:=by simpa [putG] using h1
 simp only[putG,starC,List.getElem_map,List.getElem_range,putF]
 by_cases hs:j<s.length
 ·rw[if_pos hs,List.take_length]
  unfold starF
  rw[if_pos hs]
 ·rw[if_neg hs,if_pos (by omega)]
theorem putG_step {s O:List Nat} (hs:IsPerm s) (hO:O.Nodup) {i bf:Nat} (hi:i<O.length) (hb:bf<s.length) (hbs:at' s bf=at' O i):
  (((putG s O i).set bf (s.length+2*i)).set (s.length+2*i) (at' O i)).set (s.length+2*i+1) (s.length+2*((i+O.length-1) % O.length)+1)=putG s O (i+1):=by
 refine List.ext_getElem (by simp[putG]) fun j h1 h2=>?_
 have hj:j<s.length+2*O.length:=by simpa [putG] using h2
 rw[List.getElem_set,List.getElem_set,List.getElem_set]
 simp only[putG,List.getElem_map,List.getElem_range,putF]
 by_cases hjs:j<s.length
 ·rw[if_neg (by omega),if_neg (by omega),if_pos hjs,if_pos hjs]
  by_cases e:bf=j
  ·subst e
   rw[if_pos rfl,hbs,if_pos ((mem_take_succ hi).2 (Or.inr rfl)),idx_at hO hi]
  ·rw[if_neg e]
   have hne:at' s j≠at' O i:=fun h=>e (hs.inj hb hjs (by rw[hbs,h]))
   by_cases hm:at' s j∈O.take i
   ·rw[if_pos hm,if_pos ((mem_take_succ hi).2 (Or.inl hm))]
   ·rw[if_neg hm,if_neg (fun h=>((mem_take_succ hi).1 h).elim hm hne)]
 ·rw[if_neg hjs,if_neg hjs]
  by_cases e1:s.length+2*i+1=j
  ·rw[if_pos e1,if_pos (by omega)]
   subst e1
   unfold starF
   rw[if_neg hjs,if_neg (by omega),show (s.length+2*i+1-s.length) / 2=i by omega]
  ·rw[if_neg e1]
   by_cases e2:s.length+2*i=j
   ·rw[if_pos e2,if_pos (by omega)]
    subst e2
    unfold starF
    rw[if_neg hjs,if_pos (by omega),show (s.length+2*i-s.length) / 2=i by omega]
   ·rw[if_neg e2,if_neg (by omega)]
    by_cases h3:(j-s.length) / 2<i
    ·rw[if_pos h3,if_pos (by omega)]
    ·rw[if_neg h3,if_neg (by omega)]
def stF (s O:List Nat) (i j:Nat):Nat:=
 if j<s.length then (if at' s j∈O.take i then s.length+2*O.idxOf (at' s j) else at' s j)
 else if (j-s.length) % 2=0 then at' O ((j-s.length) / 2)
 else if (j-s.length) / 2=0 then s.length+2*(i-1)+1 else s.length+2*((j-s.length) / 2-1)+1
theorem stF_old {s O:List Nat} {i j:Nat} (h:j<s.length):stF s O i j=if at' s j∈O.take i then s.length+2*O.idxOf (at' s j) else at' s j:=by
 unfold stF;rw[if_pos h]
theorem stF_even {s O:List Nat} {i j:Nat} (h:¬ j<s.length) (h2:(j-s.length) % 2=0):stF s O i j=at' O ((j-s.length) / 2):=by
 unfold stF;rw[if_neg h,if_pos h2]
theorem stF_hub0 {s O:List Nat} {i j:Nat} (h:¬ j<s.length) (h2:¬ (j-s.length) % 2=0) (h3:(j-s.length) / 2=0):stF s O i j=s.length+2*(i-1)+1:=by
 unfold stF;rw[if_neg h,if_neg h2,if_pos h3]
theorem stF_hub {s O:List Nat} {i j:Nat} (h:¬ j<s.length) (h2:¬ (j-s.length) % 2=0) (h3:¬ (j-s.length) / 2=0):stF s O i j=s.length+2*((j-s.length) / 2-1)+1:=by
 unfold stF;rw[if_neg h,if_neg h2,if_neg h3]
def stG (s O:List Nat) (i:Nat):List Nat:=(List.range (s.length+2*i)).map (stF s O i)
theorem stG_length (s O:List Nat) (i:Nat):(stG s O i).length=s.length+2*i:=by simp[stG]
theorem stG_all {s O:List Nat} (hm:0<O.length):stG s O O.length=starC s O:=by
 refine List.ext_getElem (by rw[stG_length,starC_length]) fun j h1 h2=>?_
 have hj:j<s.length+2*O.length:=by simpa [stG] using h1
 simp only[stG,starC,List.getElem_map,List.getElem_range,stF,starF]
 by_cases hs:j<s.length
 ·rw[if_pos hs,if_pos hs,List.take_length]
 ·rw[if_neg hs,if_neg hs]
  split
  ·rfl
  ·obtain⟨k,hk⟩:∃ k,(j-s.length) / 2=k:=⟨_,rfl⟩
   rw[hk]
   by_cases h0:k=0
   ·rw[if_pos h0,h0,Nat.zero_add,Nat.mod_eq_of_lt (by omega)]
   ·rw[if_neg h0,show k+O.length-1=(k-1)+O.length by omega,Nat.add_mod_right,Nat.mod_eq_of_lt (by omega)]
theorem starGo_eq {s O:List Nat} (hs:IsPerm s) (hO:O.Nodup) (hlt:∀ x,x∈O→x<s.length):∀ i,i≤O.length→starGo s O i=stG s O i
 | 0,_=>by
  refine List.ext_getElem (by rw[stG_length];rfl) fun j h1 h2=>?_
  have hj:j<s.length:=h1
  simp only[stG,List.getElem_map,List.getElem_range,stF]
  rw[if_pos hj,if_neg (by simp),at'_eq hj]
  rfl
 | i+1,hi=>by
  have ih:=starGo_eq hs hO hlt i (by omega)
  have hil:i<O.length:=by omega
  have hx:=hlt (at' O i) (by rw[at'_eq hil];exact List.getElem_mem hil)
  obtain⟨hb1,hb2⟩:=at_invL hs hx
  obtain⟨bf,hbf⟩:∃ b,at' (invL s) (at' O i)=b:=⟨_,rfl⟩
  rw[hbf] at hb1 hb2
  have hstep:starGo s O (i+1)=if i=0 then behindL (starGo s O i ++ [s.length+2*i,s.length+2*i+1]) (s.length+2*i) bf else ((behindL (starGo s O i ++ [s.length+2*i,s.length+2*i+1]) (s.length+2*i) bf).set (s.length+2*i+1) (s.length+2*i-1)).set (s.length+1) (s.length+2*i+1):=by
   simp only[starGo,hbf]
  have hgl:(stG s O i ++ [s.length+2*i,s.length+2*i+1]).length=s.length+2*i+2:=by simp[stG_length]
  have hat:at' (stG s O i ++ [s.length+2*i,s.length+2*i+1]) bf=at' O i:=by
   rw[at'_eq (by rw[hgl];omega),List.getElem_append_left (by rw[stG_length];omega)]
   simp only[stG,List.getElem_map,List.getElem_range,stF]
   rw[if_pos hb2,hb1,if_neg (not_mem_take hO hil)]
  have hbl:behindL (stG s O i ++ [s.length+2*i,s.length+2*i+1]) (s.length+2*i) bf=((stG s O i ++ [s.length+2*i,s.length+2*i+1]).set (s.length+2*i) (at' O i)).set bf (s.length+2*i):=by
   unfold behindL;rw[hat]
  rw[hstep,ih,hbl]
  have val:∀ j (h:j<(((stG s O i ++ [s.length+2*i,s.length+2*i+1]).set (s.length+2*i) (at' O i)).set bf (s.length+2*i)).length),(((stG s O i ++ [s.length+2*i,s.length+2*i+1]).set (s.length+2*i) (at' O i)).set bf (s.length+2*i))[j] =
    if bf=j then s.length+2*i else if s.length+2*i=j then at' O i else if j<s.length+2*i then stF s O i j else s.length+2*i+1:=fun j h=>by
   rw[List.getElem_set,List.getElem_set]
   by_cases e1:bf=j
   ·rw[if_pos e1,if_pos e1]
   ·rw[if_neg e1,if_neg e1]
    by_cases e2:s.length+2*i=j
    ·rw[if_pos e2,if_pos e2]
    ·rw[if_neg e2,if_neg e2]
     by_cases e3:j<s.length+2*i
     ·rw[if_pos e3,List.getElem_append_left (by rw[stG_length];exact e3)]
      simp[stG]
     ·rw[if_neg e3,List.getElem_append_right (by rw[stG_length];omega)]
      simp[stG_length] at h ⊢
      have:j-(s.length+2*i)=1:=by omega
      simp[this]
  have old:∀ j,j<s.length→(if bf=j then s.length+2*i else if at' s j∈O.take i then s.length+2*O.idxOf (at' s j) else at' s j)=if at' s j∈O.take (i+1) then s.length+2*O.idxOf (at' s j) else at' s j:=fun j hj=>by
   by_cases e:bf=j
   ·subst e
    rw[if_pos rfl,hb1,if_pos ((mem_take_succ hil).2 (Or.inr rfl)),idx_at hO hil]
   ·rw[if_neg e]
    have hne:at' s j≠at' O i:=fun h=>e (hs.inj hb2 hj (by rw[hb1,h]))
    by_cases hm:at' s j∈O.take i
    ·rw[if_pos hm,if_pos ((mem_take_succ hil).2 (Or.inl hm))]
    ·rw[if_neg hm,if_neg (fun h=>((mem_take_succ hil).1 h).elim hm hne)]
  have cmp:∀ j,j<s.length+2*i+2→(if bf=j then s.length+2*i else if s.length+2*i=j then at' O i else if j<s.length+2*i then stF s O i j else s.length+2*i+1) =
    if j<s.length then stF s O (i+1) j else if (j-s.length) % 2=0 then stF s O (i+1) j else if j<s.length+2*i then stF s O i j else s.length+2*i+1:=fun j hj=>by
   by_cases hjs:j<s.length
   ·rw[if_pos hjs,stF_old (i:=i+1) hjs,←old j hjs,stF_old (i:=i) hjs]
    by_cases e:bf=j
    ·rw[if_pos e,if_pos e]
    ·rw[if_neg e,if_neg e,if_neg (by omega),if_pos (by omega)]
   ·rw[if_neg hjs,if_neg (by omega)]
    by_cases hev:(j-s.length) % 2=0
    ·rw[if_pos hev,stF_even (i:=i+1) hjs hev]
     by_cases e2:s.length+2*i=j
     ·rw[if_pos e2,show (j-s.length) / 2=i by omega]
     ·rw[if_neg e2,if_pos (by omega),stF_even (i:=i) hjs hev]
    ·rw[if_neg hev,if_neg (by omega)]
  by_cases h0:i=0
  ·rw[if_pos h0]
   refine List.ext_getElem (by simp[stG_length];omega) fun j h1 h2=>?_
   have hj:j<s.length+2*(i+1):=by rw[stG_length] at h2;exact h2
   rw[val j h1,cmp j (by omega)]
   simp only[stG,List.getElem_map,List.getElem_range]
   by_cases hjs:j<s.length
   ·rw[if_pos hjs]
   ·rw[if_neg hjs]
    by_cases hev:(j-s.length) % 2=0
    ·rw[if_pos hev]
    ·rw[if_neg hev,if_neg (by omega),stF_hub0 hjs hev (by omega)]
     omega
  ·rw[if_neg h0]
   refine List.ext_getElem (by simp[stG_length];omega) fun j h1 h2=>?_
   have hj:j<s.length+2*(i+1):=by rw[stG_length] at h2;exact h2
   rw[List.getElem_set,List.getElem_set,val j (by simpa using h1),cmp j (by omega)]
   simp only[stG,List.getElem_map,List.getElem_range]
   by_cases hjs:j<s.length
   ·rw[if_neg (by omega),if_neg (by omega),if_pos hjs]
   ·by_cases hev:(j-s.length) % 2=0
    ·rw[if_neg (by omega),if_neg (by omega),if_neg hjs,if_pos hev]
    ·by_cases e1:s.length+1=j
     ·rw[if_pos e1,stF_hub0 (i:=i+1) hjs hev (by omega)]
      omega
     ·rw[if_neg e1,stF_hub (i:=i+1) hjs hev (by omega)]
      by_cases e2:s.length+2*i+1=j
      ·rw[if_pos e2]
       omega
      ·rw[if_neg e2,if_neg hjs,if_neg hev,if_pos (by omega),stF_hub (i:=i) hjs hev (by omega)]
end
section
open Go.RowKit
set_option linter.unusedVariables false
def listsL (s:List Nat):Nat→List (List Nat)
 | 0=>[]
 | i+1=>if nth (namesL s) i=((listsL s i).length:Int) then listsL s i ++ [orbitL s i] else listsL s i
end
section
open Go.RowKit
set_option linter.unusedVariables false
def layT (v S:List Nat):Nat→List Nat
 | 0=>S
 | i+1=>(layT v S i).set (at' v i) (at' v (nextI v.length i))
def layA (xss:List (List Nat)) (S:List Nat):List Nat:=xss.foldl (fun S v=>layT v S v.length) S
theorem layT_length (v S:List Nat):∀ i,(layT v S i).length=S.length
 | 0=>rfl
 | i+1=>by unfold layT;rw[List.length_set,layT_length v S i]
theorem layA_take {xss:List (List Nat)} {S:List Nat} {k:Nat} (hk:k<xss.length):layA (xss.take (k+1)) S=layT (xss.getD k []) (layA (xss.take k) S) (xss.getD k []).length:=by
 unfold layA
 rw[List.take_succ_eq_append_getElem hk,List.foldl_append]
 simp[List.getD,hk]
end
section
set_option linter.unusedVariables false
theorem at_set {S:List Nat} {i j y:Nat} (hj:j<S.length):at' (S.set i y) j=if i=j then y else at' S j:=by
 rw[at'_eq (by rw[List.length_set];exact hj),List.getElem_set]
 by_cases e:i=j
 ·rw[if_pos e,if_pos e]
 ·rw[if_neg e,if_neg e,at'_eq hj]
theorem layT_at {v S:List Nat} (hv:v.Nodup) (hlt:∀ x,x∈v→x<S.length):∀ i,i≤v.length →
  (∀ j,j<i→at' (layT v S i) (at' v j)=at' v (nextI v.length j))∧∀ x,x<S.length→(∀ j,j<i→at' v j≠x)→at' (layT v S i) x=at' S x
 | 0,_=>⟨fun j hj=>by omega,fun x _ _=>rfl⟩
 | i+1,hi=>by
  obtain⟨h1,h2⟩:=layT_at hv hlt i (by omega)
  have hl:=layT_length v S i
  have hin:∀ j,j<v.length→at' v j<S.length:=fun j hj=>hlt _ (by rw[at'_eq hj];exact List.getElem_mem hj)
  refine⟨fun j hj=>?_,fun x hx hn=>?_⟩
  ·show at' ((layT v S i).set (at' v i) (at' v (nextI v.length i))) (at' v j)=_
   rw[at_set (by rw[hl];exact hin j (by omega))]
   by_cases e:j=i
   ·rw[e,if_pos rfl]
   ·have hne:at' v i≠at' v j:=fun he=>by
     rw[at'_eq (by omega),at'_eq (by omega)] at he
     exact e (nodup_inj hv (by omega) (by omega) he).symm
    rw[if_neg hne]
    exact h1 j (by omega)
  ·show at' ((layT v S i).set (at' v i) (at' v (nextI v.length i))) x=_
   rw[at_set (by rw[hl];exact hx),if_neg (hn i (by omega))]
   exact h2 x hx fun j hj=>hn j (by omega)
theorem layA_length (xss:List (List Nat)):∀ S:List Nat,(layA xss S).length=S.length:=by
 induction xss with
 | nil=>exact fun S=>rfl
 | cons v xss ih=>
  intro S
  show (layA xss (layT v S v.length)).length=_
  rw[ih,layT_length]
theorem layA_at:∀ (xss:List (List Nat)) (S:List Nat),xss.flatten.Nodup→(∀ x,x∈xss.flatten→x<S.length) →
  (∀ v,v∈xss→∀ j,j<v.length→at' (layA xss S) (at' v j)=at' v (nextI v.length j))∧∀ x,x<S.length→x∉xss.flatten→at' (layA xss S) x=at' S x
 | [],S,_,_=>⟨fun v hv=>(by cases hv),fun x _ _=>rfl⟩
 | v :: xss,S,hn,hlt=>by
  rw[List.flatten_cons,List.nodup_append] at hn
  obtain⟨n1,n2,n3⟩:=hn
  have hltv:∀ x,x∈v→x<S.length:=fun x hx=>hlt x (by rw[List.flatten_cons];exact List.mem_append_left _ hx)
  obtain⟨a1,a2⟩:=layT_at n1 hltv v.length (Nat.le_refl _)
  obtain⟨b1,b2⟩:=layA_at xss (layT v S v.length) n2 (fun x hx=>by rw[layT_length];exact hlt x (by rw[List.flatten_cons];exact List.mem_append_right _ hx))
  have e:layA (v :: xss) S=layA xss (layT v S v.length):=rfl
  rw[e]
  refine⟨fun u hu j hj=>?_,fun x hx hnx=>?_⟩
  ·rcases List.mem_cons.1 hu with rfl|hu
   ·have hm:at' u j∈u:=by rw[at'_eq hj];exact List.getElem_mem hj
    rw[b2 _ (by rw[layT_length];exact hltv _ hm) (fun h=>n3 _ hm _ h rfl)]
    exact a1 j hj
   ·exact b1 u hu j hj
  ·rw[List.flatten_cons,List.mem_append,not_or] at hnx
   rw[b2 x (by rw[layT_length];exact hx) hnx.2]
   exact a2 x hx fun j hj he=>hnx.1 (by rw[←he,at'_eq hj];exact List.getElem_mem hj)
end
section
set_option linter.unusedVariables false
theorem lists_flat {s:List Nat} (hs:IsPerm s) {r:Nat→Nat→Prop} {cnt:Nat→Nat} (ho:Ord s.length r (namesL s) cnt):∀ i,i≤s.length →
  (listsL s i).length=cnt i∧(listsL s i).flatten.Nodup∧(∀ y,y∈(listsL s i).flatten↔y<s.length∧nth (namesL s) y<(cnt i:Int))∧∀ v,v∈listsL s i→∃ k,k<s.length∧v=orbitL s k
 | 0,_=>by
  refine⟨by rw[ho.zero];rfl,List.nodup_nil,fun y=>?_,fun v hv=>(by cases hv)⟩
  rw[ho.zero]
  constructor
  ·intro h;cases h
  ·rintro⟨h1,h2⟩
   exfalso
   have:=ho.bound h1
   omega
 | i+1,hi=>by
  obtain⟨h1,h2,h3,h4⟩:=lists_flat hs ho i (by omega)
  have e:listsL s (i+1)=if nth (namesL s) i=((listsL s i).length:Int) then listsL s i ++ [orbitL s i] else listsL s i:=rfl
  rcases ho.ord i (by omega) with ⟨o1,o2,o3⟩|⟨o1,o2⟩
  ·rw[e,if_neg (by rw[h1];omega),o3]
   exact⟨h1,h2,h3,h4⟩
  ·have hfl:(listsL s i ++ [orbitL s i]).flatten=(listsL s i).flatten ++ orbitL s i:=by simp
   rw[e,if_pos (by rw[h1];exact o1),o2,hfl]
   have hmo:∀ y,y∈orbitL s i↔y<s.length∧nth (namesL s) y=(cnt i:Int):=fun y=>by rw[names_orbit hs (by omega),o1]
   refine⟨by rw[List.length_append,h1];rfl,?_,fun y=>?_,fun v hv=>?_⟩
   ·rw[List.nodup_append]
    refine⟨h2,orbitL_nodup hs (by omega),fun a ha b hb he=>?_⟩
    subst he
    have x1:=((h3 a).1 ha).2
    have x2:=((hmo a).1 hb).2
    omega
   ·rw[List.mem_append,h3,hmo]
    constructor
    ·rintro (⟨y1,y2⟩|⟨y1,y2⟩)
     ·exact⟨y1,by omega⟩
     ·exact⟨y1,by omega⟩
    ·rintro⟨y1,y2⟩
     by_cases he:nth (namesL s) y=(cnt i:Int)
     ·exact Or.inr ⟨y1,he⟩
     ·exact Or.inl ⟨y1,by omega⟩
   ·rcases List.mem_append.1 hv with hv|hv
    ·exact h4 v hv
    ·exact⟨i,by omega,List.mem_singleton.1 hv⟩
theorem lists_all {s:List Nat} (hs:IsPerm s):(listsL s s.length).flatten.Nodup∧(∀ y,y∈(listsL s s.length).flatten↔y<s.length)∧∀ v,v∈listsL s s.length→∃ k,k<s.length∧v=orbitL s k:=by
 have ho:=namesL_ord hs
 obtain⟨h1,h2,h3,h4⟩:=lists_flat hs ho s.length (Nat.le_refl _)
 refine⟨h2,fun y=>?_,h4⟩
 rw[h3]
 refine⟨fun h=>h.1,fun h=>⟨h,?_⟩⟩
 have hb:=ho.bound h
 have hm:=ho.mono (k:=y+1) (l:=s.length) (by omega) (Nat.le_refl _)
 omega
end
section
set_option linter.unusedVariables false
structure RowsOf (xss:List (List Nat)) (T:List Nat):Prop where
 nd:xss.flatten.Nodup
 mem:∀ y,y∈xss.flatten↔y<T.length
 next:∀ v,v∈xss→∀ j,j<v.length→at' T (at' v j)=at' v (nextI v.length j)
theorem lists_rows {s:List Nat} (hs:IsPerm s):RowsOf (listsL s s.length) s:=by
 obtain⟨h1,h2,h3⟩:=lists_all hs
 refine⟨h1,h2,fun v hv j hj=>?_⟩
 obtain⟨k,hk,rfl⟩:=h3 v hv
 obtain⟨c,hc,hcl,he⟩:=orbitL_map hs hk
 have hl:(orbitL s k).length=c:=by rw[he];simp
 have ha:∀ j,j<c→at' (orbitL s k) j=it s j k:=fun j hj=>by rw[he];simp[at',hj]
 have hsucc:∀ j,it s (j+1) k=at' s (it s j k):=fun j=>by rw[it_itf,it_itf,itf_succ]
 rw[hl] at hj ⊢
 unfold nextI
 by_cases e:j+1<c
 ·rw[if_pos e,ha j hj,ha _ e,hsucc]
 ·rw[if_neg e,ha j hj,ha 0 hc,←hsucc,show j+1=c by omega,hcl]
  rfl
end
section
set_option linter.unusedVariables false
def Cy (f:Nat→Nat) (v:List Nat):Prop:=∀ j,j<v.length→f (at' v j)=at' v (nextI v.length j)
def insF (f:Nat→Nat) (t d x:Nat):Nat:=if x=t then d else if x=d then f t else f x
theorem at_ins {A B:List Nat} {t d:Nat} (j:Nat):at' (A ++ t :: d :: B) j=if j≤A.length then at' (A ++ t :: B) j else if j=A.length+1 then d else at' (A ++ t :: B) (j-1):=by
 unfold at'
 simp only[List.getD_eq_getElem?_getD]
 congr 1
 by_cases h1:j<A.length
 ·rw[if_pos (by omega),List.getElem?_append_left h1,List.getElem?_append_left h1]
 ·rw[List.getElem?_append_right (by omega)]
  by_cases h2:j=A.length
  ·subst h2;simp
  ·rw[if_neg (by omega)]
   by_cases h3:j=A.length+1
   ·subst h3;simp
   ·rw[if_neg h3,List.getElem?_append_right (by omega)]
    obtain⟨k,rfl⟩:∃ k,j=A.length+2+k:=⟨j-(A.length+2),by omega⟩
    rw[show A.length+2+k-A.length=k+2 by omega,show A.length+2+k-1-A.length=k+1 by omega]
    simp
theorem flat_ins {A B:List Nat} {t d:Nat} (hA:t∉A) (hB:t∉B):(A ++ t :: B).flatMap (aftF t d)=A ++ t :: d :: B:=by
 have key:∀ l:List Nat,t∉l→l.flatMap (aftF t d)=l:=fun l hl=>by
  induction l with
  | nil=>rfl
  | cons x l ih=>
   simp only[List.mem_cons,not_or] at hl
   rw[List.flatMap_cons,ih hl.2]
   unfold aftF
   rw[if_neg (fun e=>hl.1 e.symm)]
   rfl
 rw[List.flatMap_append,List.flatMap_cons,key A hA,key B hB]
 unfold aftF
 rw[if_pos rfl]
 rfl
theorem flat_same {v:List Nat} {t d:Nat} (h:t∉v):v.flatMap (aftF t d)=v:=by
 induction v with
 | nil=>rfl
 | cons x l ih=>
  simp only[List.mem_cons,not_or] at h
  rw[List.flatMap_cons,ih h.2]
  unfold aftF
  rw[if_neg (fun e=>h.1 e.symm)]
  rfl
theorem Cy.ins {f:Nat→Nat} {A B:List Nat} {t d:Nat} (h:Cy f (A ++ t :: B)) (hn:(A ++ t :: B).Nodup) (hd:d∉A ++ t :: B):Cy (insF f t d) (A ++ t :: d :: B):=by
 have hl:(A ++ t :: B).length=A.length+B.length+1:=by simp;omega
 have hl2:(A ++ t :: d :: B).length=A.length+B.length+2:=by simp;omega
 have hat:at' (A ++ t :: B) A.length=t:=by simp[at',List.getD]
 have hmem:∀ i,i<A.length+B.length+1→at' (A ++ t :: B) i≠d:=fun i hi e=>hd (by rw[←e,at'_eq (by rw[hl];exact hi)];exact List.getElem_mem _)
 have hnt:∀ i,i<A.length+B.length+1→i≠A.length→at' (A ++ t :: B) i≠t:=fun i hi hne e=>by
  have e2:at' (A ++ t :: B) i=at' (A ++ t :: B) A.length:=e.trans hat.symm
  rw[at'_eq (by rw[hl];exact hi),at'_eq (by rw[hl];omega)] at e2
  exact hne (nodup_inj hn _ _ e2)
 have hnx:∀ i,i<A.length+B.length+1→f (at' (A ++ t :: B) i)=at' (A ++ t :: B) (nextI (A.length+B.length+1) i):=fun i hi=>by
  have:=h i (by rw[hl];exact hi)
  rw[hl] at this
  exact this
 intro j hj
 rw[hl2] at hj ⊢
 have lo:∀ i,i≤A.length→at' (A ++ t :: d :: B) i=at' (A ++ t :: B) i:=fun i hi=>by rw[at_ins,if_pos hi]
 have mi:at' (A ++ t :: d :: B) (A.length+1)=d:=by rw[at_ins,if_neg (by omega),if_pos rfl]
 have hi':∀ i,A.length+1<i→at' (A ++ t :: d :: B) i=at' (A ++ t :: B) (i-1):=fun i hi=>by rw[at_ins,if_neg (by omega),if_neg (by omega)]
 have nx:∀ m i,i+1<m→nextI m i=i+1:=fun m i hi=>by unfold nextI;rw[if_pos hi]
 have nz:∀ m i,¬ i+1<m→nextI m i=0:=fun m i hi=>by unfold nextI;rw[if_neg hi]
 by_cases h1:j<A.length
 ·rw[lo j (by omega),nx _ j (by omega),lo (j+1) (by omega)]
  unfold insF
  rw[if_neg (hnt j (by omega) (by omega)),if_neg (hmem j (by omega)),hnx j (by omega),nx _ j (by omega)]
 ·by_cases h2:j=A.length
  ·rw[h2,lo _ (Nat.le_refl _),hat,nx _ _ (by omega),mi]
   unfold insF
   rw[if_pos rfl]
  ·by_cases h3:j=A.length+1
   ·have hdt:d≠t:=fun e=>hmem A.length (by omega) (by rw[hat,e])
    have h5:=hnx A.length (by omega)
    rw[hat] at h5
    rw[h3,mi]
    unfold insF
    rw[if_neg hdt,if_pos rfl,h5]
    by_cases h4:A.length+1<A.length+B.length+1
    ·rw[nx _ _ h4,nx _ _ (by omega),hi' _ (by omega)]
     rfl
    ·rw[nz _ _ h4,nz _ _ (by omega),lo 0 (by omega)]
   ·rw[hi' j (by omega)]
    unfold insF
    rw[if_neg (hnt (j-1) (by omega) (by omega)),if_neg (hmem (j-1) (by omega)),hnx (j-1) (by omega)]
    by_cases h4:j+1<A.length+B.length+2
    ·rw[nx _ _ (by omega),nx _ j h4,hi' _ (by omega)]
     congr 1
     omega
    ·rw[nz _ _ (by omega),nz _ j h4,lo 0 (by omega)]
end
end Go.Proofs.Ytklkgicjfnbndaa
