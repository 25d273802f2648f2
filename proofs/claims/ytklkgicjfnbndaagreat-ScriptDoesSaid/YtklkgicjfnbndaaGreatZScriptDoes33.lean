/- Names of edges, and flips, as names of darts; named back. -/
import Derived.Test.YtklkgicjfnbndaaGreatZScriptDoes30
import Derived.Test.YtklkgicjfnbndaaGreatZScriptDoes20
namespace Go.Proofs.YtklkgicjfnbndaaGreat
section
set_option linter.unusedVariables false
section
variable {M : List Nat} (hM : IsPerm M) (fb : Nat → Bool)
include hM
end
section
variable {s t : List Nat} (hs : IsPerm s) (ht : IsPerm t) (hl : t.length = s.length)
include ht
include hs hl
end
end
section
set_option linter.unusedVariables false
def hasE (F:List Nat) (d:Nat):Bool:=F.any fun x=>decide (x / 2=d / 2)
theorem hasE_iff {F:List Nat} {d:Nat}:hasE F d=true↔∃ i,i<F.length∧at' F i / 2=d / 2:=by
 unfold hasE
 rw[List.any_eq_true]
 constructor
 ·rintro⟨x,hx,h⟩
  obtain⟨i,hi,rfl⟩:=List.getElem_of_mem hx
  exact⟨i,hi,by rw[at'_eq hi];simpa using h⟩
 ·rintro⟨i,hi,h⟩
  rw[at'_eq hi] at h
  exact⟨F[i],List.getElem_mem hi,by simpa using h⟩
def fstAdd (F:List Nat) (d:Nat):List Nat:=if hasE F d=true then F else F ++ [d]
def fstL (F ds:List Nat):List Nat:=ds.foldl fstAdd F
def idxE (F:List Nat) (d:Nat):Nat:=F.findIdx fun x=>decide (x / 2=d / 2)
def nmF (F:List Nat) (d:Nat):Nat:=2*idxE F d+if at' F (idxE F d)=d then 0 else 1
def nmI (F:List Nat) (d:Nat):Int:=if hasE F d=true then ((nmF F d:Nat):Int) else -1
def namesF (n:Nat) (F:List Nat):List Int:=(List.range n).map (nmI F)
theorem namesF_length (n:Nat) (F:List Nat):(namesF n F).length=n:=by simp[namesF]
theorem namesF_at {n:Nat} {F:List Nat} {d:Nat} (h:d<n):nth (namesF n F) d=nmI F d:=by simp[namesF,nth,h]
theorem namesF_nil (n:Nat):namesF n []=List.replicate n (-1):=by
 refine List.ext_getElem (by simp[namesF]) fun i h1 h2=>?_
 simp[namesF,nmI,hasE]
structure FOk (n:Nat) (F:List Nat):Prop where
 lt:∀ i,i<F.length→at' F i<n
 one:∀ i j,i<F.length→j<F.length→at' F i / 2=at' F j / 2→i=j
theorem FOk.nil (n:Nat):FOk n []:=⟨fun i h=>by simp at h,fun i j h=>by simp at h⟩
theorem at_app {F:List Nat} {d i:Nat} (hi:i<F.length):at' (F ++ [d]) i=at' F i:=by simp[at',List.getD,List.getElem?_append_left hi]
theorem at_app_last {F:List Nat} {d:Nat}:at' (F ++ [d]) F.length=d:=by simp[at',List.getD]
theorem FOk.add {n:Nat} {F:List Nat} (h:FOk n F) {d:Nat} (hd:d<n):FOk n (fstAdd F d):=by
 unfold fstAdd
 by_cases hh:hasE F d=true
 ·rw[if_pos hh];exact h
 ·rw[if_neg hh]
  have hno:∀ i,i<F.length→at' F i / 2≠d / 2:=fun i hi e=>hh (hasE_iff.2 ⟨i,hi,e⟩)
  refine⟨fun i hi=>?_,fun i j hi hj e=>?_⟩
  ·rw[List.length_append,List.length_singleton] at hi
   by_cases hl:i<F.length
   ·rw[at_app hl];exact h.lt i hl
   ·obtain rfl:i=F.length:=by omega
    rw[at_app_last];exact hd
  ·rw[List.length_append,List.length_singleton] at hi hj
   by_cases hl:i<F.length <;> by_cases hk:j<F.length
   ·rw[at_app hl,at_app hk] at e;exact h.one i j hl hk e
   ·obtain rfl:j=F.length:=by omega
    rw[at_app hl,at_app_last] at e
    exact absurd e (hno i hl)
   ·obtain rfl:i=F.length:=by omega
    rw[at_app hk,at_app_last] at e
    exact absurd e.symm (hno j hk)
   ·omega
theorem FOk.fst {n:Nat}:∀ (ds:List Nat) {F:List Nat},FOk n F→(∀ d,d∈ds→d<n)→FOk n (fstL F ds)
 | [],F,h,_=>h
 | d :: ds,F,h,hd=>FOk.fst ds (h.add (hd d List.mem_cons_self)) fun x hx=>hd x (List.mem_cons_of_mem _ hx)
theorem hasE_add {F:List Nat} {d x:Nat}:hasE (fstAdd F d) x=true↔hasE F x=true∨d / 2=x / 2:=by
 unfold fstAdd
 by_cases hh:hasE F d=true
 ·rw[if_pos hh]
  refine⟨Or.inl,fun h=>h.elim id fun e=>?_⟩
  obtain⟨i,hi,e1⟩:=hasE_iff.1 hh
  exact hasE_iff.2 ⟨i,hi,e1.trans e⟩
 ·rw[if_neg hh]
  unfold hasE
  rw[List.any_append,Bool.or_eq_true]
  simp
theorem hasE_fst:∀ (ds:List Nat) {F:List Nat} {x:Nat},hasE (fstL F ds) x=true↔hasE F x=true∨∃ d,d∈ds∧d / 2=x / 2
 | [],F,x=>⟨Or.inl,fun h=>h.elim id fun ⟨d,hd,_⟩=>by cases hd⟩
 | d :: ds,F,x=>by
  show hasE (fstL (fstAdd F d) ds) x=true↔_
  rw[hasE_fst ds,hasE_add]
  constructor
  ·rintro ((h|h)|⟨y,hy,e⟩)
   ·exact Or.inl h
   ·exact Or.inr ⟨d,List.mem_cons_self,h⟩
   ·exact Or.inr ⟨y,List.mem_cons_of_mem _ hy,e⟩
  ·rintro (h|⟨y,hy,e⟩)
   ·exact Or.inl (Or.inl h)
   ·rcases List.mem_cons.1 hy with rfl|hy
    ·exact Or.inl (Or.inr e)
    ·exact Or.inr ⟨y,hy,e⟩
theorem idx_of {n:Nat} {F:List Nat} (h:FOk n F) {i d:Nat} (hi:i<F.length) (e:at' F i / 2=d / 2):idxE F d=i:=by
 have hl:F.findIdx (fun x=>decide (x / 2=d / 2))<F.length:=List.findIdx_lt_length_of_exists ⟨F[i],List.getElem_mem hi,by rw[at'_eq hi] at e;simpa using e⟩
 have hp:=List.findIdx_getElem (w:=hl)
 refine h.one _ _ hl hi ?_
 rw[e]
 show at' F (idxE F d) / 2=d / 2
 rw[show at' F (idxE F d)=F[F.findIdx (fun x=>decide (x / 2=d / 2))] from at'_eq hl]
 simpa using hp
theorem nm_at {n:Nat} {F:List Nat} (h:FOk n F) {i:Nat} (hi:i<F.length):nmF F (at' F i)=2*i:=by
 unfold nmF
 rw[idx_of h hi rfl,if_pos rfl,Nat.add_zero]
theorem nm_mate {n:Nat} {F:List Nat} (h:FOk n F) {i:Nat} (hi:i<F.length):nmF F (at' F i ^^^ 1)=2*i+1:=by
 unfold nmF
 rw[idx_of h hi (xor_one_div _).symm,if_neg (xor_one_ne _).symm]
theorem nm_cases {n:Nat} {F:List Nat} (h:FOk n F) {d:Nat} (hd:hasE F d=true):∃ i,i<F.length∧(d=at' F i∧nmF F d=2*i∨d=at' F i ^^^ 1∧nmF F d=2*i+1):=by
 obtain⟨i,hi,e⟩:=hasE_iff.1 hd
 refine⟨i,hi,?_⟩
 rcases half_eq e.symm with e1|e1
 ·exact Or.inl ⟨e1,by rw[e1,nm_at h hi]⟩
 ·exact Or.inr ⟨e1,by rw[e1,nm_mate h hi]⟩
theorem namesF_add {n:Nat} {F:List Nat} (h:FOk n F) (he:n % 2=0) {d:Nat} (hd:d<n) (hno:hasE F d=false):
  ((namesF n F).set d ((2*F.length:Nat):Int)).set (d ^^^ 1) ((2*F.length+1:Nat):Int)=namesF n (F ++ [d]):=by
 have hno':¬ hasE F d=true:=by rw[hno];simp
 have hadd:fstAdd F d=F ++ [d]:=by unfold fstAdd;rw[if_neg hno']
 have hok:FOk n (F ++ [d]):=by rw[←hadd];exact h.add hd
 have hlen:F.length<(F ++ [d]).length:=by simp
 refine List.ext_getElem (by simp[namesF]) fun x h1 h2=>?_
 have hx:x<n:=by simpa [namesF] using h2
 rw[List.getElem_set,List.getElem_set]
 have e0:∀ G,(namesF n G)[x]'(by simp[namesF];exact hx)=nmI G x:=fun G=>by simp[namesF]
 rw[e0,e0]
 have hhas:hasE (F ++ [d]) x=true↔hasE F x=true∨d / 2=x / 2:=by rw[←hadd];exact hasE_add
 by_cases e1:d ^^^ 1=x
 ·rw[if_pos e1]
  unfold nmI
  rw[if_pos (hhas.2 (Or.inr (by rw[←e1,xor_one_div])))]
  have:=nm_mate hok hlen
  rw[at_app_last,e1] at this
  rw[this]
 ·rw[if_neg e1]
  by_cases e2:d=x
  ·rw[if_pos e2]
   unfold nmI
   rw[if_pos (hhas.2 (Or.inr (by rw[e2])))]
   have:=nm_at hok hlen
   rw[at_app_last] at this
   rw[←e2,this]
  ·rw[if_neg e2]
   have e3:¬ d / 2=x / 2:=fun e=>(half_eq e).elim (fun k=>e2 k) fun k=>e1 (by rw[k,xor_one_one])
   unfold nmI
   by_cases hF:hasE F x=true
   ·rw[if_pos hF,if_pos (hhas.2 (Or.inl hF))]
    obtain⟨i,hi,k⟩:=nm_cases h hF
    have hi':i<(F ++ [d]).length:=by simp;omega
    have m1:=nm_at hok hi'
    have m2:=nm_mate hok hi'
    rw[at_app hi] at m1 m2
    rcases k with ⟨k1,k2⟩|⟨k1,k2⟩
    ·rw[k2,k1,m1]
    ·rw[k2,k1,m2]
   ·rw[if_neg hF,if_neg (fun k=>(hhas.1 k).elim hF e3)]
def canP (n:Nat) (F:List Nat):List Nat:=(List.range n).map (nmF F)
theorem canP_length (n:Nat) (F:List Nat):(canP n F).length=n:=by simp[canP]
theorem canP_at {n:Nat} {F:List Nat} {d:Nat} (h:d<n):at' (canP n F) d=nmF F d:=by simp[canP,at',h]
theorem namesF_all {n:Nat} {F:List Nat} (hall:∀ d,d<n→hasE F d=true):namesF n F=toI (canP n F):=by
 unfold namesF canP toI
 rw[List.map_map]
 refine List.map_congr_left fun d hd=>?_
 unfold nmI
 rw[if_pos (hall d (List.mem_range.1 hd))]
 rfl
section
variable {n : Nat} {F : List Nat} (h : FOk n F) (he : n % 2 = 0) (hall : ∀ d, d < n → hasE F d = true)
include h he hall
theorem canF_length:2*F.length=n:=by
 have hnd:(F.map (fun x=>x / 2)).Nodup:=by
  rw[List.nodup_iff_pairwise_ne,List.pairwise_iff_getElem]
  intro i j hi hj hij e
  simp only[List.getElem_map] at e
  rw[List.length_map] at hi hj
  have:=h.one i j hi hj (by rw[at'_eq hi,at'_eq hj];exact e)
  omega
 have h1:(F.map (fun x=>x / 2)).length≤(List.range (n / 2)).length:=hnd.length_le_of_subset fun x hx=>by
  obtain⟨y,hy,rfl⟩:=List.mem_map.1 hx
  obtain⟨i,hi,rfl⟩:=List.getElem_of_mem hy
  have:=h.lt i hi
  rw[at'_eq hi] at this
  exact List.mem_range.2 (by omega)
 have h2:(List.range (n / 2)).length≤(F.map (fun x=>x / 2)).length:=List.nodup_range.length_le_of_subset fun x hx=>by
  have hx:=List.mem_range.1 hx
  obtain⟨i,hi,e⟩:=hasE_iff.1 (hall (2*x) (by omega))
  rw[at'_eq hi] at e
  exact List.mem_map.2 ⟨F[i],List.getElem_mem hi,by omega⟩
 simp at h1 h2
 omega
theorem canP_perm:IsPerm (canP n F):=by
 have hl:=canF_length h he hall
 refine IsPerm.of_inj (fun i hi=>?_) (fun i j hi hj e=>?_)
 ·rw[canP_length] at hi ⊢
  rw[canP_at hi]
  obtain⟨k,hk,⟨_,e⟩|⟨_,e⟩⟩:=nm_cases h (hall i hi) <;> omega
 ·rw[canP_length] at hi hj
  rw[canP_at hi,canP_at hj] at e
  obtain⟨k,hk,⟨a1,a2⟩|⟨a1,a2⟩⟩:=nm_cases h (hall i hi) <;> obtain⟨m,hm,⟨b1,b2⟩|⟨b1,b2⟩⟩:=nm_cases h (hall j hj)
  ·have:k=m:=by omega
   rw[a1,b1,this]
  ·omega
  ·omega
  ·have:k=m:=by omega
   rw[a1,b1,this]
theorem canP_mates:Mates (canP n F):=fun d hd=>by
 rw[canP_length] at hd
 rw[canP_at hd,canP_at (xor_one_lt he hd)]
 obtain⟨k,hk,⟨a1,a2⟩|⟨a1,a2⟩⟩:=nm_cases h (hall d hd)
 ·rw[a2,a1,nm_mate h hk,xor_even]
 ·rw[a2,a1,xor_one_one,nm_at h hk,xor_odd]
end
noncomputable def walkD (s:List Nat) (r:Nat):List Nat:=(List.range (partC' s r)).map (wd s (sizesL s).length r)
def firstB (N:List Int) (root d:Nat):Bool:=!decide (nth N d=nth N root) && (List.range d).all fun x=>!decide (nth N x=nth N d)
def restTo (N:List Int) (root k:Nat):List Nat:=(List.range k).filter (firstB N root)
theorem restTo_succ (N:List Int) (root k:Nat):restTo N root (k+1)=if firstB N root k=true then restTo N root k ++ [k] else restTo N root k:=by
 unfold restTo
 rw[List.range_succ,List.filter_append]
 by_cases h:firstB N root k=true
 ·rw[if_pos h];simp[h]
 ·rw[if_neg h];simp[h]
def rootsL (s:List Nat) (root:Nat):List Nat:=root :: restTo (partsL s) root s.length
noncomputable def canD (s:List Nat) (root:Nat):List Nat:=if s.length=0 then [] else (rootsL s root).flatMap (walkD s)
noncomputable def canF (s:List Nat) (root:Nat):List Nat:=fstL [] (canD s root)
noncomputable def canL (s:List Nat) (root:Nat):List Nat:=canP s.length (canF s root)
theorem firstB_iff {N:List Int} {root d:Nat}:firstB N root d=true↔nth N d≠nth N root∧∀ x,x<d→nth N x≠nth N d:=by
 unfold firstB
 rw[Bool.and_eq_true,List.all_eq_true]
 constructor
 ·rintro⟨h1,h2⟩
  exact⟨by simpa using h1,fun x hx=>by simpa using h2 x (List.mem_range.2 hx)⟩
 ·rintro⟨h1,h2⟩
  exact⟨by simpa using h1,fun x hx=>by simpa using h2 x (List.mem_range.1 hx)⟩
theorem rootsL_lt {s:List Nat} {root:Nat} (hr:root<s.length):∀ r,r∈rootsL s root→r<s.length:=fun r h=>by
 rcases List.mem_cons.1 h with rfl|h
 ·exact hr
 ·exact List.mem_range.1 (List.mem_filter.1 h).1
section
variable {s : List Nat} (hs : IsPerm s) (he : s.length % 2 = 0)
include hs he
theorem mem_walkD {r x:Nat} (hr:r<s.length):x∈walkD s r↔Con s r x:=by
 obtain⟨h1,h2,h3⟩:=wlen hs he hr (V:=(sizesL s).length) (Nat.le_refl _)
 rw[wall hs he hr (V:=(sizesL s).length) (Nat.le_refl _) h2 h1 h3]
 unfold walkD
 constructor
 ·intro h
  obtain⟨j,hj,e⟩:=List.mem_map.1 h
  exact⟨j,List.mem_range.1 hj,e⟩
 ·rintro⟨j,hj,e⟩
  exact List.mem_map.2 ⟨j,List.mem_range.2 hj,e⟩
theorem rootsL_all {root:Nat} (hr:root<s.length) {x:Nat} (hx:x<s.length):∃ r,r∈rootsL s root∧Con s r x:=by
 have hrel:=(partsL_ord hs he).rel
 by_cases e:nth (partsL s) x=nth (partsL s) root
 ·exact⟨root,List.mem_cons_self,(hrel _ _ hr hx).1 e.symm⟩
 ·obtain⟨l,hl,hc,hm⟩:=(Con.per hs).least x hx
  have hln:l<s.length:=by omega
  have h1:nth (partsL s) l=nth (partsL s) x:=(hrel _ _ hln hx).2 hc
  refine⟨l,List.mem_cons_of_mem _ (List.mem_filter.2 ⟨List.mem_range.2 hln,firstB_iff.2 ⟨by rw[h1];exact e,fun y hy k=>hm y hy ((hrel _ _ (by omega) hln).1 k)⟩⟩),hc⟩
theorem canD_lt {root:Nat} (hr:root<s.length):∀ d,d∈canD s root→d<s.length:=fun d h=>by
 unfold canD at h
 rw[if_neg (by omega)] at h
 obtain⟨r,h1,h2⟩:=List.mem_flatMap.1 h
 exact (Con.per hs).cod ((mem_walkD hs he (rootsL_lt hr r h1)).1 h2)
theorem canF_ok {root:Nat} (hr:root<s.length):FOk s.length (canF s root):=FOk.fst _ (FOk.nil _) (canD_lt hs he hr)
theorem canF_all {root:Nat} (hr:root<s.length):∀ d,d<s.length→hasE (canF s root) d=true:=fun d hd=>by
 unfold canF
 rw[hasE_fst]
 obtain⟨r,h1,h2⟩:=rootsL_all hs he hr hd
 refine Or.inr ⟨d,?_,rfl⟩
 unfold canD
 rw[if_neg (by omega)]
 exact List.mem_flatMap.2 ⟨r,h1,(mem_walkD hs he (rootsL_lt hr r h1)).2 h2⟩
theorem canL_perm {root:Nat} (hr:root<s.length):IsPerm (canL s root):=canP_perm (canF_ok hs he hr) he (canF_all hs he hr)
theorem canL_mates {root:Nat} (hr:root<s.length):Mates (canL s root):=canP_mates (canF_ok hs he hr) he (canF_all hs he hr)
theorem canL_root {root:Nat} (hr:root<s.length):at' (canL s root) root=0:=by
 have hok:=canF_ok hs he hr
 unfold canL
 rw[canP_at hr]
 have h0:∃ l,canF s root=root :: l:=by
  have hp:=(wlen hs he hr (V:=(sizesL s).length) (Nat.le_refl _)).2.1
  obtain⟨p,hpp⟩:∃ p,partC' s root=p+1:=⟨partC' s root-1,by omega⟩
  have e1:∃ l,canD s root=root :: l:=by
   unfold canD rootsL walkD
   rw[if_neg (by omega),List.flatMap_cons,hpp,List.range_succ_eq_map]
   exact⟨_,rfl⟩
  obtain⟨l,e1⟩:=e1
  have keep:∀ (ds:List Nat) (F:List Nat),(∃ l,F=root :: l)→∃ l,fstL F ds=root :: l:=fun ds=>by
   induction ds with
   | nil=>exact fun F h=>h
   | cons d ds ih=>
    rintro F ⟨l,rfl⟩
    refine ih _ ?_
    unfold fstAdd
    split
    ·exact⟨l,rfl⟩
    ·exact⟨l ++ [d],rfl⟩
  unfold canF
  rw[e1]
  exact keep l _ ⟨[],rfl⟩
 obtain⟨l,hl⟩:=h0
 have:=nm_at hok (i:=0) (by rw[hl];simp)
 rw[hl] at this ⊢
 exact this
end
end
section
set_option linter.unusedVariables false
section
variable {s t : List Nat} (hs : IsPerm s) (he : s.length % 2 = 0) (ht : IsPerm t) (hl : t.length = s.length) (hm : Mates t)
include hs he ht hl hm
end
section
variable {s t : List Nat} (hs : IsPerm s) (he : s.length % 2 = 0) (ht : IsPerm t) (hl : t.length = s.length) (hm : Mates t)
include hs he ht hl hm
end
theorem rise_eq:∀ (a b:List Nat),a.Pairwise (· < ·)→b.Pairwise (· < ·)→(∀ x,x∈a↔x∈b)→a=b
 | [],[],_,_,_=>rfl
 | [],y :: b,_,_,h=>by have:=(h y).2 List.mem_cons_self;cases this
 | x :: a,[],_,_,h=>by have:=(h x).1 List.mem_cons_self;cases this
 | x :: a,y :: b,ha,hb,h=>by
  have ha':=List.pairwise_cons.1 ha
  have hb':=List.pairwise_cons.1 hb
  have e:x=y:=by
   rcases List.mem_cons.1 ((h x).1 List.mem_cons_self) with k|k
   ·exact k
   ·rcases List.mem_cons.1 ((h y).2 List.mem_cons_self) with k'|k'
    ·exact k'.symm
    ·have:=ha'.1 _ k';have:=hb'.1 _ k;omega
  subst e
  rw[rise_eq a b ha'.2 hb'.2 fun z=>⟨fun hz=>by
   rcases List.mem_cons.1 ((h z).1 (List.mem_cons_of_mem _ hz)) with k|k
   ·have:=ha'.1 _ hz;omega
   ·exact k,fun hz=>by
   rcases List.mem_cons.1 ((h z).2 (List.mem_cons_of_mem _ hz)) with k|k
   ·have:=hb'.1 _ hz;omega
   ·exact k⟩]
end
section
set_option linter.unusedVariables false
section
variable {n : Nat} {G l : List Nat} (h : FOk n (G ++ l))
include h
end
section
variable {s : List Nat} (hs : IsPerm s) (he : s.length % 2 = 0)
include hs he
theorem mem_rest {root d:Nat} (hr:root<s.length):d∈restTo (partsL s) root s.length↔d<s.length∧¬ Con s root d∧Least (Con s) d:=by
 have hrel:=(partsL_ord hs he).rel
 unfold restTo
 rw[List.mem_filter,List.mem_range,firstB_iff]
 constructor
 ·rintro⟨h1,h2,h3⟩
  exact⟨h1,fun hc=>h2 ((hrel _ _ hr h1).2 hc).symm,fun y hy hc=>h3 y hy ((hrel _ _ (by omega) h1).2 hc)⟩
 ·rintro⟨h1,h2,h3⟩
  exact⟨h1,fun hc=>h2 ((hrel _ _ hr h1).1 hc.symm),fun y hy hc=>h3 y hy ((hrel _ _ (by omega) h1).1 hc)⟩
end
end
section
set_option linter.unusedVariables false
structure SimV (s:List Nat) (V:Nat) (a b:WSt):Prop where
 lt:a.d<s.length
 d:b.d=a.d
 ed:b.ed=a.ed
 ml:a.mt.length=(sizesL s).length
 ml':b.mt.length=V
 mt:∀ v,v<(sizesL s).length→getB b.mt v=getB a.mt v
section
variable {s : List Nat} (hs : IsPerm s) (he : s.length % 2 = 0) {V : Nat} (hV : (sizesL s).length ≤ V)
include hs he hV
theorem SimV.next {a b:WSt} (h:SimV s V a b):SimV s V (wnext s a) (wnext s b):=by
 have hxl:=xor_one_lt he h.lt
 have hv:=vtx_lt hs hxl
 have hk:wkind s b=wkind s a:=by
  unfold wkind
  rw[h.d,h.ed,h.mt _ hv]
 refine⟨?_,?_,?_,?_,?_,fun v hvl=>?_⟩
 ·show wdart s a<s.length
  unfold wdart
  split
  ·exact hs.lt hxl
  ·exact hs.lt h.lt
 ·show wdart s b=wdart s a
  unfold wdart
  rw[hk,h.d]
 ·show wed s b=wed s a
  unfold wed
  rw[hk,h.d,h.ed]
 ·show (wmt s a).length=_
  unfold wmt;split <;> simp[h.ml]
 ·show (wmt s b).length=_
  unfold wmt;split <;> simp[h.ml']
 ·show getB (wmt s b) v=getB (wmt s a) v
  unfold wmt
  rw[hk,h.d]
  split
  ·rw[getB_set (by rw[h.ml'];omega),getB_set (by rw[h.ml];exact hv),h.mt v hvl]
  ·exact h.mt v hvl
theorem SimV.all {root:Nat} (hr:root<s.length):∀ i,SimV s V (wst s (sizesL s).length root i) (wst s V root i)
 | 0=>by
  have hv:=vtx_lt hs hr
  refine⟨hr,rfl,rfl,by simp[wst],by simp[wst],fun v hvl=>?_⟩
  show getB (List.set (List.replicate _ _) _ _) _=getB (List.set (List.replicate _ _) _ _) _
  rw[getB_set (by rw[List.length_replicate];omega),getB_set (by rw[List.length_replicate];exact hv)]
  have hf:∀ (n i:Nat),getB (List.replicate n false) i=false:=fun n i=>by
   unfold getB
   by_cases h:i<n <;> simp[h]
  rw[hf,hf]
 | i+1=>(SimV.all hr i).next hs he hV
theorem wd_V {root:Nat} (hr:root<s.length) (i:Nat):wd s V root i=wd s (sizesL s).length root i:=(SimV.all hs he hV hr i).d
end
def rootsP (s:List Nat) (f:Int) (i:Nat):List Nat:=((List.range i).filter fun (k:Nat)=>decide ((k:Int)≠f∧k<partsN s)).map fun (k:Nat)=>rootOf (partsL s) (k:Int)
theorem rootsP_succ (s:List Nat) (f:Int) (i:Nat):rootsP s f (i+1)=if (i:Int)≠f∧i<partsN s then rootsP s f i ++ [rootOf (partsL s) (i:Int)] else rootsP s f i:=by
 unfold rootsP
 rw[List.range_succ,List.filter_append]
 by_cases h:(i:Int)≠f∧i<partsN s
 ·rw[if_pos h,List.map_append];simp[h]
 ·rw[if_neg h,List.map_append];simp[h]
theorem rootsP_all {s:List Nat} (hs:IsPerm s) (he:s.length % 2=0) {root:Nat} (hr:root<s.length) (l:Nat):rootsP s (nth (partsL s) root) (partsN s+l)=restTo (partsL s) root s.length:=by
 have ho:=partsL_ord hs he
 have hcn:(partsGo s s.length).2=partsN s:=rfl
 have hget:∀ k,k<partsN s→∃ j,j<s.length∧nth (partsL s) j=k∧(partsGo s j).2=k∧rootOf (partsL s) (k:Int)=j:=fun k hk=>by
  obtain⟨j,hj,h1,h2⟩:=ho.has (Nat.le_refl _) k (by rw[hcn];exact hk)
  refine⟨j,hj,h1,h2,rootOf_eq (by rw[ho.len];exact hj) h1 fun i hi=>?_⟩
  have:=ho.first hj (by rw[h1,h2]) i hi
  rwa [h2] at this
 refine rise_eq _ _ ?_ (List.pairwise_lt_range.filter _) fun x=>?_
 ·unfold rootsP
  rw[List.pairwise_map]
  refine List.Pairwise.imp_of_mem (fun {a b} ha hb hab=>?_) (List.pairwise_lt_range.filter _)
  have ha:=(List.mem_filter.1 ha).2
  have hb:=(List.mem_filter.1 hb).2
  simp only[decide_eq_true_eq] at ha hb
  obtain⟨j,hj,_,h2,h3⟩:=hget a ha.2
  obtain⟨j',hj',_,h2',h3'⟩:=hget b hb.2
  rw[h3,h3']
  rcases Nat.lt_or_ge j j' with h|h
  ·exact h
  ·have:=ho.mono h (Nat.le_of_lt hj)
   omega
 ·rw[mem_rest hs he hr]
  unfold rootsP
  rw[List.mem_map]
  constructor
  ·rintro⟨k,hk,rfl⟩
   have hk:=(List.mem_filter.1 hk).2
   simp only[decide_eq_true_eq] at hk
   obtain⟨j,hj,h1,h2,h3⟩:=hget k hk.2
   rw[h3]
   refine⟨hj,fun hc=>hk.1 ?_,(ho.least hj).2 (by rw[h1,h2])⟩
   rw[←h1]
   exact ((ho.rel _ _ hr hj).2 hc).symm
  ·rintro⟨hx,h1,h2⟩
   have h3:=(ho.least hx).1 h2
   have hb:=(ho.bound hx).2
   have hm:=ho.mono (k:=x+1) (l:=s.length) (by omega) (Nat.le_refl _)
   have hkP:(partsGo s x).2<partsN s:=by rw[←hcn];omega
   obtain⟨j,hj,k1,k2,k3⟩:=hget _ hkP
   refine⟨(partsGo s x).2,List.mem_filter.2 ⟨List.mem_range.2 (by omega),?_⟩,?_⟩
   ·simp only[decide_eq_true_eq]
    refine⟨fun e=>h1 ((ho.rel _ _ hr hx).1 ?_),hkP⟩
    rw[h3];exact e.symm
   ·refine rootOf_eq (by rw[ho.len];exact hx) h3 fun i hi=>?_
    have:=ho.first hx h3 i hi
    exact this
end
end Go.Proofs.YtklkgicjfnbndaaGreat
