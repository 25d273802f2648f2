/- What the document does to lists is what the program does to the map: a leaf, a chord, a split, a star, a flip. -/
import Derived.Test.YtgphnkkdmlohlaaGreatZWTP26
import Derived.Test.YtgphnkkdmlohlaaGreatZWTP21
import Derived.Test.YtgphnkkdmlohlaaGreatZWTP22
namespace Go.Proofs.YtgphnkkdmlohlaaGreat
section
set_option linter.unusedVariables false
theorem insF_congr {f g:Nat→Nat} {t d x:Nat} (h1:f t=g t) (h2:x≠t→x≠d→f x=g x):insF f t d x=insF g t d x:=by
 unfold insF
 by_cases e:x=t
 ·rw[if_pos e,if_pos e]
 ·rw[if_neg e,if_neg e]
  by_cases e2:x=d
  ·rw[if_pos e2,if_pos e2,h1]
  ·rw[if_neg e2,if_neg e2,h2 e e2]
theorem behind_at {L:List Nat} {d t x:Nat} (hx:x<L.length):at' (behindL L d t) x=insF (at' L) t d x:=by
 unfold behindL insF
 rw[at_set (by rw[List.length_set];exact hx),at_set hx]
 by_cases h:t=x
 ·rw[if_pos h,if_pos h.symm]
 ·rw[if_neg h,if_neg (show ¬ x=t from fun e=>h e.symm)]
  by_cases h2:d=x
  ·rw[if_pos h2,if_pos h2.symm]
  ·rw[if_neg h2,if_neg (show ¬ x=d from fun e=>h2 e.symm)]
def starLs (s O:List Nat):Nat→List (List Nat)
 | 0=>listsL s s.length
 | i+1=>outL (aftF (at' (invL s) (at' O i)) (s.length+2*i)) (starLs s O i)
def hubL (n:Nat):Nat→List Nat
 | 0=>[]
 | i+1=>(n+2*i+1) :: hubL n i
theorem hubL_length (n:Nat):∀ i,(hubL n i).length=i
 | 0=>rfl
 | i+1=>by unfold hubL;rw[List.length_cons,hubL_length n i]
theorem hubL_at (n:Nat):∀ {i j:Nat},j<i→at' (hubL n i) j=n+2*(i-1-j)+1
 | i+1,0,_=>by show n+2*i+1=_;simp
 | i+1,j+1,h=>by
  show at' (hubL n i) j=_
  rw[hubL_at n (by omega),show i+1-1-(j+1)=i-1-j by omega]
theorem hubL_mem (n:Nat):∀ {i x:Nat},x∈hubL n i↔∃ j,j<i∧x=n+2*j+1
 | 0,x=>⟨fun h=>(by cases h),fun ⟨j,h,_⟩=>(by omega)⟩
 | i+1,x=>by
  unfold hubL
  rw[List.mem_cons,hubL_mem n]
  constructor
  ·rintro (h|⟨j,h1,h2⟩)
   ·exact⟨i,by omega,h⟩
   ·exact⟨j,by omega,h2⟩
  ·rintro⟨j,h1,h2⟩
   by_cases h:j=i
   ·exact Or.inl (h ▸ h2)
   ·exact Or.inr ⟨j,by omega,h2⟩
theorem hubL_nodup (n:Nat):∀ i,(hubL n i).Nodup
 | 0=>List.nodup_nil
 | i+1=>by
  unfold hubL
  rw[List.nodup_cons,hubL_mem]
  exact⟨fun ⟨j,h1,h2⟩=>by omega,hubL_nodup n i⟩
theorem starLs_rows {s O:List Nat} (hs:IsPerm s) (hO:O.Nodup) (hlt:∀ x,x∈O→x<s.length):∀ i,i≤O.length→RowsF (starLs s O i) (fun y=>y<s.length∨∃ j,j<i∧y=s.length+2*j) (stF s O i)
 | 0,_=>(lists_rowsF hs).congr (fun y=>⟨Or.inl,fun h=>h.elim id fun ⟨j,h,_⟩=>by omega⟩) fun y hy=>by
  rw[stF_old hy,if_neg (by simp)]
 | i+1,hi=>by
  have ih:=starLs_rows hs hO hlt i (by omega)
  have hil:i<O.length:=by omega
  have hx:=hlt (at' O i) (by rw[at'_eq hil];exact List.getElem_mem hil)
  obtain⟨hb1,hb2⟩:=at_invL hs hx
  obtain⟨t,ht⟩:∃ t,at' (invL s) (at' O i)=t:=⟨_,rfl⟩
  rw[ht] at hb1 hb2
  have h1:=ih.after (t:=t) (d:=s.length+2*i) (Or.inl hb2) (fun h=>by rcases h with h|⟨j,h1,h2⟩ <;> omega)
  have e:starLs s O (i+1)=outL (aftF t (s.length+2*i)) (starLs s O i):=by rw[←ht];rfl
  rw[e]
  refine h1.congr (fun y=>?_) fun y hy=>?_
  ·constructor
   ·rintro ((h|⟨j,h1,h2⟩)|h)
    ·exact Or.inl h
    ·exact Or.inr ⟨j,by omega,h2⟩
    ·exact Or.inr ⟨i,by omega,h⟩
   ·rintro (h|⟨j,h1,h2⟩)
    ·exact Or.inl (Or.inl h)
    ·by_cases h3:j=i
     ·exact Or.inr (h3 ▸ h2)
     ·exact Or.inl (Or.inr ⟨j,by omega,h2⟩)
  ·have htv:stF s O i t=at' O i:=by rw[stF_old hb2,hb1,if_neg (not_mem_take hO hil)]
   unfold insF
   rw[htv]
   by_cases h2:y=t
   ·rw[if_pos h2,h2,stF_old hb2,hb1,if_pos ((mem_take_succ hil).2 (Or.inr rfl)),idx_at hO hil]
   ·rw[if_neg h2]
    by_cases h3:y=s.length+2*i
    ·rw[if_pos h3,stF_even (by omega) (by omega),h3,show (s.length+2*i-s.length) / 2=i by omega]
    ·rw[if_neg h3]
     by_cases h4:y<s.length
     ·rw[stF_old h4,stF_old h4]
      by_cases h5:at' s y∈O.take i
      ·rw[if_pos h5,if_pos ((mem_take_succ hil).2 (Or.inl h5))]
      ·rw[if_neg h5,if_neg]
       intro h6
       rcases (mem_take_succ hil).1 h6 with h7|h7
       ·exact h5 h7
       ·exact h2 (hs.inj h4 hb2 (h7.trans hb1.symm))
     ·have h6:(y-s.length) % 2=0:=by
       rcases hy with (h|⟨j,h1,h2⟩)|h <;> omega
      rw[stF_even h4 h6,stF_even h4 h6]
theorem star_rows {s O:List Nat} (hs:IsPerm s) (hO:O.Nodup) (hlt:∀ x,x∈O→x<s.length) (hm:0<O.length):RowsOf (starLs s O O.length ++ [hubL s.length O.length]) (starC s O):=by
 have h1:=(starLs_rows hs hO hlt O.length (Nat.le_refl _)).congr (g:=at' (starC s O)) (fun y=>Iff.rfl) fun y hy=>by
  have hyl:y<s.length+2*O.length:=by rcases hy with h|⟨j,h1,h2⟩ <;> omega
  rw[starC_at hyl]
  unfold starF
  by_cases h4:y<s.length
  ·rw[stF_old h4,if_pos h4,List.take_length]
  ·have h6:(y-s.length) % 2=0:=by
    rcases hy with h|⟨j,h1,h2⟩ <;> omega
   rw[stF_even h4 h6,if_neg h4,if_pos h6]
 refine (h1.more (hubL_nodup _ _) (fun x hx=>?_) (fun j hj=>?_) fun x _=>rfl).rows (fun y=>?_) fun y _=>rfl
 ·obtain⟨j,h2,h3⟩:=(hubL_mem _).1 hx
  rintro (h|⟨k,h4,h5⟩) <;> omega
 ·rw[hubL_length] at hj ⊢
  rw[hubL_at _ hj,starC_at (by omega)]
  unfold starF
  rw[if_neg (by omega),if_neg (by omega),show (s.length+2*(O.length-1-j)+1-s.length) / 2=O.length-1-j by omega]
  unfold nextI
  by_cases h:j+1<O.length
  ·rw[if_pos h,hubL_at _ h,show O.length-1-j+O.length-1=(O.length-1-(j+1))+O.length by omega,Nat.add_mod_right,Nat.mod_eq_of_lt (by omega)]
  ·rw[if_neg h,hubL_at _ hm,show O.length-1-j=0 by omega,Nat.zero_add,Nat.mod_eq_of_lt (by omega)]
   rfl
 ·rw[starC_length,hubL_mem]
  constructor
  ·rintro ((h|⟨j,h1,h2⟩)|⟨j,h1,h2⟩) <;> omega
  ·intro h
   by_cases h1:y<s.length
   ·exact Or.inl (Or.inl h1)
   ·by_cases h2:(y-s.length) % 2=0
    ·exact Or.inl (Or.inr ⟨(y-s.length) / 2,by omega,by omega⟩)
    ·exact Or.inr ⟨(y-s.length) / 2,by omega,by omega⟩
theorem flipL_length (s:List Nat) (d:Nat):(flipL s d).length=s.length:=by
 unfold flipL;dsimp only
 rw[behindL_length,List.length_set,behindL_length];simp
theorem flip_rows {s:List Nat} (hs:IsPerm s) {d m a b:Nat} (hm:d ^^^ 1=m) (hd:d<s.length) (hml:m<s.length)
  (ha:at' (invL s) (at' (phiL s) (at' (phiL s) d))=a) (hb:at' (invL s) (at' (phiL s) (at' (phiL s) m))=b) (hal:a<s.length) (hbl:b<s.length)
  (h1:at' s d≠d) (h2:at' s m≠m) (h3:at' s d≠m) (h4:at' s m≠d) (ha1:a≠d) (ha2:a≠m) (hb1:b≠d) (hb2:b≠m):
  RowsOf (outL (aftF b m) (outL (aftF a d) (outL (witF m) (outL (witF d) (listsL s s.length))))) (flipL s d):=by
 have hdm:d≠m:=fun e=>by rw[←hm,xor_one] at e;split at e <;> omega
 have r1:=((((lists_rowsF hs).without d).without m).after (t:=a) (d:=d) ⟨⟨hal,ha1⟩,ha2⟩ (fun h=>h.1.2 rfl)).after (t:=b) (d:=m) (Or.inl ⟨⟨hbl,hb1⟩,hb2⟩) (fun h=>h.elim (fun h=>h.2 rfl) fun e=>hdm e.symm)
 refine r1.rows (fun y=>?_) fun y hy=>?_
 ·rw[flipL_length]
  constructor
  ·rintro ((h|h)|h)
   ·exact h.1.1
   ·omega
   ·omega
  ·intro h
   by_cases e1:y=m
   ·exact Or.inr e1
   ·by_cases e2:y=d
    ·exact Or.inl (Or.inr e2)
    ·exact Or.inl (Or.inl ⟨⟨h,e2⟩,e1⟩)
 rw[flipL_length] at hy
 obtain⟨hd1,hd2⟩:=at_invL hs hd
 obtain⟨hm1,hm2⟩:=at_invL hs hml
 unfold flipL
 dsimp only
 rw[hm,ha,hb]
 obtain⟨p,hp⟩:∃ p,at' (invL s) d=p:=⟨_,rfl⟩
 obtain⟨q,hq⟩:∃ q,at' (invL s) m=q:=⟨_,rfl⟩
 rw[hp] at hd1 hd2
 rw[hq] at hm1 hm2
 rw[hp,hq]
 obtain⟨L1,hL1⟩:∃ L,(s.set p (at' s d)).set q (at' s m)=L:=⟨_,rfl⟩
 have hl1:L1.length=s.length:=by rw[←hL1];simp
 rw[hL1]
 have hpq:p≠q:=fun e=>hdm (by rw[←hd1,e,hm1])
 have hpd:p≠d:=fun e=>h1 (by rw[←e,hd1,e])
 have hqm:q≠m:=fun e=>h2 (by rw[←e,hm1,e])
 have hpm:p≠m:=fun e=>h4 (by rw[←e,hd1])
 have hqd:q≠d:=fun e=>h3 (by rw[←e,hm1])
 have v1:∀ x,x<s.length→at' L1 x=delF (delF (at' s) d) m x:=fun x hx=>by
  rw[←hL1,at_set (by rw[List.length_set];exact hx),at_set hx]
  have gm:delF (at' s) d m=at' s m:=by unfold delF;rw[if_neg h4]
  unfold delF at gm ⊢
  rw[gm]
  by_cases e1:q=x
  ·have hv:at' s x=m:=by rw[←e1];exact hm1
   rw[if_pos e1,hv,if_neg (show ¬ m=d from fun e=>hdm e.symm),if_pos rfl]
  ·rw[if_neg e1]
   by_cases e2:p=x
   ·have hv:at' s x=d:=by rw[←e2];exact hd1
    rw[if_pos e2,hv,if_pos rfl,if_neg h3]
   ·rw[if_neg e2,if_neg (show ¬ at' s x=d from fun e=>e2 (hs.inj hd2 hx (hd1.trans e.symm))),if_neg (show ¬ at' s x=m from fun e=>e1 (hs.inj hm2 hx (hm1.trans e.symm)))]
 rw[behind_at (by rw[List.length_set,behindL_length,List.length_set,hl1];exact hy)]
 have v2:∀ x,x<s.length→x≠m→at' ((behindL (L1.set d d) d a).set m m) x=insF (delF (delF (at' s) d) m) a d x:=fun x hx hxm=>by
  rw[at_set (by rw[behindL_length,List.length_set,hl1];exact hx),if_neg (fun e=>hxm e.symm),behind_at (by rw[List.length_set,hl1];exact hx)]
  refine insF_congr ?_ fun _ e2=>?_
  ·rw[at_set (by rw[hl1];exact hal),if_neg (show ¬ d=a from fun e=>ha1 e.symm),v1 a hal]
  ·rw[at_set (by rw[hl1];exact hx),if_neg (show ¬ d=x from fun e=>e2 e.symm),v1 x hx]
 have ub:∀ (F:Nat→Nat) (t u x:Nat),insF F t u x=if x=t then u else if x=u then F t else F x:=fun _ _ _ _=>rfl
 rw[ub _ b m y,ub _ b m y,v2 b hbl hb2]
 by_cases e1:y=b
 ·rw[if_pos e1,if_pos e1]
 ·rw[if_neg e1,if_neg e1]
  by_cases e2:y=m
  ·rw[if_pos e2,if_pos e2]
  ·rw[if_neg e2,if_neg e2,v2 y hy e2]
end
section
set_option linter.unusedVariables false
def SameRow (xss:List (List Nat)) (x y:Nat):Prop:=∃ v,v∈xss∧x∈v∧y∈v
theorem RowsF.perm {xss yss:List (List Nat)} {D:Nat→Prop} {f:Nat→Nat} (h:RowsF xss D f) (p:xss.Perm yss):RowsF yss D f:=
 ⟨p.flatten.nodup_iff.1 h.nd,fun y=>by rw[←p.flatten.mem_iff];exact h.mem y,fun v hv=>h.next v (p.mem_iff.2 hv)⟩
theorem RowsF.tail {xss:List (List Nat)} {v:List Nat} {D:Nat→Prop} {f:Nat→Nat} (h:RowsF (v :: xss) D f):RowsF xss (fun y=>D y∧y∉v) f:=by
 have hn:=h.nd
 rw[List.flatten_cons,List.nodup_append] at hn
 refine⟨hn.2.1,fun y=>?_,fun u hu=>h.next u (List.mem_cons_of_mem _ hu)⟩
 rw[←h.mem y,List.flatten_cons,List.mem_append]
 exact⟨fun hy=>⟨Or.inr hy,fun hv=>hn.2.2 y hv y hy rfl⟩,fun hy=>hy.1.resolve_left hy.2⟩
theorem RowsF.uni {xss:List (List Nat)} {D:Nat→Prop} {f:Nat→Nat} (h:RowsF xss D f) {u v:List Nat} {x:Nat} (hu:u∈xss) (hv:v∈xss) (hxu:x∈u) (hxv:x∈v):u=v:=by
 induction xss generalizing D with
 | nil=>cases hu
 | cons w xss ih=>
  have ht:=h.tail
  rcases List.mem_cons.1 hu with rfl|hu'
  ·rcases List.mem_cons.1 hv with rfl|hv'
   ·rfl
   ·exact absurd hxu ((ht.mem x).1 (List.mem_flatten.2 ⟨v,hv',hxv⟩)).2
  ·rcases List.mem_cons.1 hv with rfl|hv'
   ·exact absurd hxv ((ht.mem x).1 (List.mem_flatten.2 ⟨u,hu',hxu⟩)).2
   ·exact ih ht hu' hv'
theorem RowsF.f_mem {xss:List (List Nat)} {D:Nat→Prop} {f:Nat→Nat} (h:RowsF xss D f) {v:List Nat} (hv:v∈xss) {x:Nat} (hx:x∈v):f x∈v:=by
 obtain⟨j,hj,rfl⟩:=List.getElem_of_mem hx
 have hn:=h.next v hv j hj
 rw[at'_eq hj] at hn
 rw[hn,at'_eq (by unfold nextI;split <;> omega)]
 exact List.getElem_mem _
theorem RowsF.row_it {xss:List (List Nat)} {D:Nat→Prop} {f:Nat→Nat} (h:RowsF xss D f) {v:List Nat} (hv:v∈xss):∀ j,j<v.length→itf f j (at' v 0)=at' v j
 | 0,_=>rfl
 | j+1,hj=>by
  rw[itf_succ,h.row_it hv j (by omega),h.next v hv j (by omega)]
  unfold nextI
  rw[if_pos hj]
theorem rows_tally {xss:List (List Nat)}:∀ {D:Nat→Prop} {f:Nat→Nat} {n:Nat},RowsF xss D f→(∀ v,v∈xss→v≠[])→(∀ y,D y→y<n)→tally (fun x=>D x∧Least (SameRow xss) x) n=xss.length:=by
 induction xss with
 | nil=>
  intro D f n h _ _
  exact tally_none fun k _ hk=>by
   have:=(h.mem k).2 hk.1
   cases this
 | cons v xss ih=>
  intro D f n h hne hD
  have ht:=h.tail
  have hi:=ih ht (fun u hu=>hne u (List.mem_cons_of_mem _ hu)) (fun y hy=>hD y hy.1)
  obtain⟨x0,hx0⟩:∃ x,x∈v:=List.exists_mem_of_ne_nil v (hne v (List.mem_cons_self ..))
  obtain⟨a,_,ha,hl⟩:=least_nat (p:=fun x=>x∈v) x0 hx0
  have hDv:∀ x,x∈v→D x:=fun x hx=>(h.mem x).1 (List.mem_flatten.2 ⟨v,List.mem_cons_self ..,hx⟩)
  have hself:∀ x,D x→∃ u,u∈v :: xss∧x∈u:=fun x hx=>by
   obtain⟨u,hu,hxu⟩:=List.mem_flatten.1 ((h.mem x).2 hx)
   exact⟨u,hu,hxu⟩
  rw[tally_but (a:=a) (hD a (hDv a ha)) ⟨hDv a ha,fun y hy hr=>by
   obtain⟨u,hu,hyu,hau⟩:=hr
   have:=h.uni hu (List.mem_cons_self ..) hau ha
   subst this
   exact hl y hy hyu⟩,List.length_cons,←hi]
  refine congrArg (·+1) (tally_congr fun x hx=>?_)
  constructor
  ·rintro⟨⟨h1,h2⟩,h3⟩
   have hxv:x∉v:=fun hm=>by
    rcases Nat.lt_trichotomy a x with e|e|e
    ·exact h2 a e ⟨v,List.mem_cons_self ..,ha,hm⟩
    ·exact h3 e.symm
    ·exact hl x e hm
   exact⟨⟨h1,hxv⟩,fun y hy ⟨u,hu,h4,h5⟩=>h2 y hy ⟨u,List.mem_cons_of_mem _ hu,h4,h5⟩⟩
  ·rintro⟨⟨h1,h2⟩,h3⟩
   refine⟨⟨h1,fun y hy ⟨u,hu,h4,h5⟩=>?_⟩,fun e=>h2 (e ▸ ha)⟩
   rcases List.mem_cons.1 hu with rfl|hu
   ·exact h2 h5
   ·exact h3 y hy ⟨u,hu,h4,h5⟩
theorem RowsOf.rowsF {xss:List (List Nat)} {T:List Nat} (h:RowsOf xss T):RowsF xss (· < T.length) (at' T):=⟨h.nd,h.mem,fun v hv=>h.next v hv⟩
theorem RowsOf.cyc {xss:List (List Nat)} {T:List Nat} (h:RowsOf xss T) (hT:IsPerm T) {x y:Nat} (hx:x<T.length) (hy:y<T.length):Go.Proofs.YtgphnkkdmlohlaaGreat.cyc T.length (at' T) x y↔SameRow xss x y:=by
 have hf:=h.rowsF
 constructor
 ·rintro⟨_,_,j,rfl⟩
  obtain⟨v,hv,hxv⟩:=List.mem_flatten.1 ((h.mem x).2 hx)
  have key:∀ j,itf (at' T) j x∈v:=fun j=>by
   induction j with
   | zero=>exact hxv
   | succ j ih=>rw[itf_succ];exact hf.f_mem hv ih
  exact⟨v,hv,hxv,key j⟩
 ·rintro⟨v,hv,hxv,hyv⟩
  have hp:=hT.pm.per
  have key:∀ z,z∈v→Go.Proofs.YtgphnkkdmlohlaaGreat.cyc T.length (at' T) (at' v 0) z:=fun z hz=>by
   obtain⟨j,hj,rfl⟩:=List.getElem_of_mem hz
   have h0:at' v 0<T.length:=(h.mem _).1 (List.mem_flatten.2 ⟨v,hv,by rw[at'_eq (by omega)];exact List.getElem_mem _⟩)
   exact⟨h0,(h.mem _).1 (List.mem_flatten.2 ⟨v,hv,hz⟩),j,by rw[hf.row_it hv j hj,at'_eq hj]⟩
  exact hp.trans (hp.symm (key x hxv)) (key y hyv)
theorem RowsOf.count {xss:List (List Nat)} {T:List Nat} (h:RowsOf xss T) (hT:IsPerm T) (hne:∀ v,v∈xss→v≠[]):(sizesL T).length=xss.length:=by
 rw[sizesL_tally hT,←rows_tally h.rowsF hne (fun y hy=>hy)]
 refine tally_congr fun x hx=>⟨fun hl=>⟨hx,fun y hy hr=>hl y hy ((h.cyc hT (by omega) hx).2 hr)⟩,fun hl y hy hr=>hl.2 y hy ((h.cyc hT (by omega) hx).1 hr)⟩
theorem RowsOf.isPerm {xss:List (List Nat)} {T:List Nat} (h:RowsOf xss T):IsPerm T:=by
 have hf:=h.rowsF
 refine IsPerm.of_inj (fun i hi=>?_) (fun i j hi hj e=>?_)
 ·obtain⟨v,hv,hiv⟩:=List.mem_flatten.1 ((h.mem i).2 hi)
  exact (h.mem _).1 (List.mem_flatten.2 ⟨v,hv,hf.f_mem hv hiv⟩)
 ·obtain⟨v,hv,hiv⟩:=List.mem_flatten.1 ((h.mem i).2 hi)
  obtain⟨u,hu,hju⟩:=List.mem_flatten.1 ((h.mem j).2 hj)
  have h1:=hf.f_mem hv hiv
  have h2:=hf.f_mem hu hju
  rw[←e] at h2
  have:=hf.uni hv hu h1 h2
  subst this
  obtain⟨a,ha,rfl⟩:=List.getElem_of_mem hiv
  obtain⟨b,hb,rfl⟩:=List.getElem_of_mem hju
  have ea:=h.next v hv a ha
  have eb:=h.next v hv b hb
  rw[at'_eq ha] at ea
  rw[at'_eq hb] at eb
  rw[ea,eb,at'_eq (by unfold nextI;split <;> omega),at'_eq (by unfold nextI;split <;> omega)] at e
  have hnx:=nodup_inj (hf.rowNd hv) (by unfold nextI;split <;> omega) (by unfold nextI;split <;> omega) e
  have:a=b:=by unfold nextI at hnx;split at hnx <;> split at hnx <;> omega
  subst this
  rfl
theorem lists_ne {s:List Nat} (hs:IsPerm s):∀ v,v∈listsL s s.length→v≠[]:=fun v hv e=>by
 obtain⟨k,hk,h⟩:=(lists_all hs).2.2 v hv
 rw[e] at h
 cases h
theorem lists_count {s:List Nat} (hs:IsPerm s):(listsL s s.length).length=(sizesL s).length:=((lists_rows hs).count hs (lists_ne hs)).symm
theorem after_ne {xss:List (List Nat)} {t d:Nat} (h:∀ v,v∈xss→v≠[]):∀ v,v∈outL (aftF t d) xss→v≠[]:=fun v hv=>by
 unfold outL at hv
 obtain⟨u,hu,rfl⟩:=List.mem_map.1 hv
 obtain⟨x,hx⟩:=List.exists_mem_of_ne_nil u (h u hu)
 have:x∈u.flatMap (aftF t d):=List.mem_flatMap.2 ⟨x,hx,by unfold aftF;split <;> simp_all⟩
 exact List.ne_nil_of_mem this
theorem outL_len (f:Nat→List Nat) (xss:List (List Nat)):(outL f xss).length=xss.length:=by unfold outL;rw[List.length_map]
theorem tally_more {p:Nat→Prop} {n:Nat}:∀ {m:Nat},n≤m→(∀ k,n≤k→k<m→¬ p k)→tally p m=tally p n
 | 0,h,_=>by
  obtain rfl:n=0:=by omega
  rfl
 | m+1,h,hk=>by
  by_cases e:n=m+1
  ·rw[e]
  ·rw[tally_succ,ind_no (hk m (by omega) (by omega)),tally_more (show n≤m by omega) fun k h1 h2=>hk k h1 (by omega)]
   omega
theorem parts_grow {s t:List Nat} (hs:IsPerm s) (hes:s.length % 2=0) (ht:IsPerm t) (het:t.length % 2=0) (hl:s.length≤t.length) (π:Nat→Nat)
  (h0:∀ x,x<s.length→π x=x) (h1:∀ x,x<t.length→π x<s.length) (h2:∀ x,x<t.length→Con s (π x) (π (at' t x))) (h3:∀ x,x<t.length→Con s (π x) (π (x ^^^ 1)))
  (h4:∀ x,x<s.length→Con t x (at' s x)) (h5:∀ x,x<t.length→Con t (π x) x):partsN t=partsN s:=by
 have ps:=Con.per hs
 have pt:=Con.per ht
 have up:∀ {x y},Con t x y→Con s (π x) (π y):=fun {x y} h=>by
  have:(fun a b=>a<t.length∧b<t.length∧Con s (π a) (π b)) x y:=by
   refine Con.sub ht (r:=fun a b=>a<t.length∧b<t.length∧Con s (π a) (π b)) ⟨fun hx=>⟨hx,hx,ps.refl (h1 _ hx)⟩,fun h=>⟨h.2.1,h.1,ps.symm h.2.2⟩,fun h k=>⟨h.1,k.2.1,ps.trans h.2.2 k.2.2⟩,fun h=>h.1⟩ (fun x hx=>⟨hx,ht.lt hx,h2 x hx⟩) (fun x hx=>⟨hx,xor_one_lt het hx,h3 x hx⟩) h
  exact this.2.2
 have down:∀ {x y},Con s x y→Con t x y:=fun {x y} h=>by
  have:(fun a b=>a<s.length∧b<s.length∧Con t a b) x y:=by
   refine Con.sub hs (r:=fun a b=>a<s.length∧b<s.length∧Con t a b) ⟨fun hx=>⟨hx,hx,pt.refl (by omega)⟩,fun h=>⟨h.2.1,h.1,pt.symm h.2.2⟩,fun h k=>⟨h.1,k.2.1,pt.trans h.2.2 k.2.2⟩,fun h=>h.1⟩ (fun x hx=>⟨hx,hs.lt hx,h4 x hx⟩) (fun x hx=>⟨hx,xor_one_lt hes hx,Con.mate ht het (by omega)⟩) h
  exact this.2.2
 have e1:partsN t=tally (Least (Con t)) t.length:=(partsL_ord ht het).cnt_eq (Nat.le_refl _)
 have e2:partsN s=tally (Least (Con s)) s.length:=(partsL_ord hs hes).cnt_eq (Nat.le_refl _)
 rw[e1,e2,tally_more hl fun k hk hk2 hL=>hL (π k) (by have:=h1 k hk2;omega) (h5 k hk2)]
 refine tally_congr fun x hx=>⟨fun hL y hy h=>hL y hy (down h),fun hL y hy h=>hL y hy ?_⟩
 have:=up h
 rw[h0 x hx,h0 y (by omega)] at this
 exact this
theorem genus_grow {s t:List Nat} (hs:IsPerm s) (hes:s.length % 2=0) (ht:IsPerm t) (het:t.length % 2=0) {v f:Int} (hp:partsN t=partsN s) (hv:((sizesL t).length:Int)=(sizesL s).length+v) (hf:((sizesL (phiL t)).length:Int)=(sizesL (phiL s)).length+f) (he:((t.length / 2:Nat):Int)=((s.length / 2:Nat):Int)+(v+f)):genusL t=genusL s:=by
 have h1:=genus_total hs hes
 have h2:=genus_total ht het
 rw[hp,hv,hf,he] at h2
 omega
end
section
set_option linter.unusedVariables false
structure GrownL (s t:List Nat) (v f:Int):Prop where
 perm:IsPerm t
 even:t.length % 2=0
 parts:partsN t=partsN s
 vs:((sizesL t).length:Int)=(sizesL s).length+v
 fs:((sizesL (phiL t)).length:Int)=(sizesL (phiL s)).length+f
 es:((t.length / 2:Nat):Int)=((s.length / 2:Nat):Int)+(v+f)
theorem GrownL.genus {s t:List Nat} {v f:Int} (h:GrownL s t v f) (hs:IsPerm s) (hes:s.length % 2=0):genusL t=genusL s:=genus_grow hs hes h.perm h.even h.parts h.vs h.fs h.es
theorem insF_t (f:Nat→Nat) (t d:Nat):insF f t d t=d:=by unfold insF;rw[if_pos rfl]
theorem insF_d {f:Nat→Nat} {t d:Nat} (h:d≠t):insF f t d d=f t:=by unfold insF;rw[if_neg h,if_pos rfl]
theorem insF_o {f:Nat→Nat} {t d x:Nat} (h:x≠t) (h2:x≠d):insF f t d x=f x:=by unfold insF;rw[if_neg h,if_neg h2]
theorem delF_d {f:Nat→Nat} {d x:Nat} (h:f x=d):delF f d x=f d:=by unfold delF;rw[if_pos h]
theorem delF_o {f:Nat→Nat} {d x:Nat} (h:f x≠d):delF f d x=f x:=by unfold delF;rw[if_neg h]
theorem xor_add {n k:Nat} (hn:n % 2=0) (h:k<2):(n+k) ^^^ 1=n+(1-k):=by
 rw[xor_one]
 split <;> omega
theorem lists_phi {s:List Nat} (hs:IsPerm s) (hes:s.length % 2=0):(listsL (phiL s) s.length).length=(sizesL (phiL s)).length:=by
 have:=lists_count (phiL_perm hs hes)
 rwa [phiL_length] at this
theorem lists_phi_ne {s:List Nat} (hs:IsPerm s) (hes:s.length % 2=0):∀ v,v∈listsL (phiL s) s.length→v≠[]:=by
 have:=lists_ne (phiL_perm hs hes)
 rwa [phiL_length] at this
section
variable {s : List Nat} (hs : IsPerm s) (hes : s.length % 2 = 0) {d : Nat} (hd : d < s.length)
include hs hes hd
end
section
variable {s : List Nat} (hs : IsPerm s) (hes : s.length % 2 = 0) {d m : Nat} (hm : d ^^^ 1 = m) (hd : d < s.length)
include hs hes hm hd
end
end
section
set_option linter.unusedVariables false
theorem face_con {s:List Nat} (hs:IsPerm s) (hes:s.length % 2=0) {x y:Nat} (h:cyc s.length (at' (phiL s)) x y):Con s x y:=by
 have hp:=(phiL_perm hs hes).pm
 rw[phiL_length] at hp
 have ps:=Con.per hs
 refine hp.cyc_sub ps (fun z hz=>?_) h
 rw[phiL_at hz]
 exact ps.trans (Con.mate hs hes hz) (Con.step hs (xor_one_lt hes hz))
theorem orbit_at {s:List Nat} (hs:IsPerm s) {k:Nat} (hk:k<s.length) {j:Nat} (hj:j<(orbitL s k).length):at' s (at' (orbitL s k) j)=at' (orbitL s k) (nextI (orbitL s k).length j):=by
 obtain⟨c,hc,hcl,he⟩:=orbitL_map hs hk
 have hl:(orbitL s k).length=c:=by rw[he];simp
 have ha:∀ j,j<c→at' (orbitL s k) j=it s j k:=fun j hj=>by rw[he];simp[at',hj]
 have hsucc:∀ j,it s (j+1) k=at' s (it s j k):=fun j=>by rw[it_itf,it_itf,itf_succ]
 rw[hl] at hj ⊢
 unfold nextI
 by_cases e:j+1<c
 ·rw[if_pos e,ha j hj,ha _ e,hsucc]
 ·rw[if_neg e,ha j hj,ha 0 hc,←hsucc,show j+1=c by omega,hcl]
  rfl
section
variable {s : List Nat} (hs : IsPerm s) (hes : s.length % 2 = 0) {d e : Nat} (hd : d < s.length) (he : e < s.length)
include hs hes hd he
end
end
section
set_option linter.unusedVariables false
def triL (s O:List Nat) (j:Nat):List Nat:=[at' O j,s.length+2*nextI O.length j,s.length+2*j+1]
def trisL (s O:List Nat):Nat→List (List Nat)
 | 0=>[]
 | i+1=>trisL s O i ++ [triL s O i]
theorem trisL_length (s O:List Nat):∀ i,(trisL s O i).length=i
 | 0=>rfl
 | i+1=>by unfold trisL;rw[List.length_append,trisL_length s O i];rfl
theorem trisL_ne (s O:List Nat):∀ i v,v∈trisL s O i→v≠[]
 | 0,v,h=>by cases h
 | i+1,v,h=>by
  unfold trisL at h
  rcases List.mem_append.1 h with h|h
  ·exact trisL_ne s O i v h
  ·rw[List.mem_singleton.1 h];unfold triL;simp
theorem nextI_lt {n j:Nat} (h:j<n):nextI n j<n:=by unfold nextI;split <;> omega
theorem nextI_inj {n i j:Nat} (hi:i<n) (hj:j<n) (h:nextI n i=nextI n j):i=j:=by
 unfold nextI at h
 split at h <;> split at h <;> omega
theorem nextI_back {n j:Nat} (hj:j<n):(nextI n j+n-1) % n=j:=by
 unfold nextI
 split
 ·rw[show j+1+n-1=j+n by omega,Nat.add_mod_right,Nat.mod_eq_of_lt hj]
 ·rw[Nat.zero_add,Nat.mod_eq_of_lt (by omega)];omega
theorem star_phi_in {s O:List Nat} (hes:s.length % 2=0) {j:Nat} (hj:j<O.length):at' (phiL (starC s O)) (s.length+2*nextI O.length j)=s.length+2*j+1:=by
 have hn:=nextI_lt hj
 have e:(s.length+2*nextI O.length j) ^^^ 1=s.length+2*nextI O.length j+1:=xor_add (n:=s.length+2*nextI O.length j) (k:=0) (by omega) (by omega)
 rw[phiL_at (by rw[starC_length];omega),e,starC_at (by omega)]
 unfold starF
 rw[if_neg (by omega),if_neg (by omega),show (s.length+2*nextI O.length j+1-s.length) / 2=nextI O.length j by omega,nextI_back hj]
theorem star_phi_out {s O:List Nat} (hes:s.length % 2=0) {j:Nat} (hj:j<O.length):at' (phiL (starC s O)) (s.length+2*j+1)=at' O j:=by
 have e:(s.length+2*j+1) ^^^ 1=s.length+2*j:=xor_add (n:=s.length+2*j) (k:=1) (by omega) (by omega)
 rw[phiL_at (by rw[starC_length];omega),e,starC_at (by omega)]
 unfold starF
 rw[if_neg (by omega),if_pos (by omega),show (s.length+2*j-s.length) / 2=j by omega]
theorem starLs_length {s O:List Nat} (hs:IsPerm s):∀ i,(starLs s O i).length=(sizesL s).length
 | 0=>lists_count hs
 | i+1=>by unfold starLs;rw[outL_len];exact starLs_length hs i
theorem starLs_ne {s O:List Nat} (hs:IsPerm s):∀ i v,v∈starLs s O i→v≠[]
 | 0,v,h=>lists_ne hs v h
 | i+1,v,h=>after_ne (starLs_ne hs i) v h
section
variable {s : List Nat} (hs : IsPerm s) (hes : s.length % 2 = 0) {d : Nat} (hd : d < s.length) {O : List Nat} (hO : orbitL (phiL s) d = O)
include hs hes hd hO
theorem star_face:O.Nodup∧(∀ x,x∈O→x<s.length)∧0<O.length∧(∀ j,j<O.length→at' (phiL s) (at' O j)=at' O (nextI O.length j))∧(∀ x,x<s.length→(at' (phiL s) x∈O↔x∈O))∧∀ x,x∈O→Con s d x:=by
 have hp:=phiL_perm hs hes
 have hpl:=phiL_length s
 have hdp:d<(phiL s).length:=by rw[hpl];exact hd
 subst hO
 refine⟨orbitL_nodup hp hdp,fun x hx=>by rw[←hpl];exact orbitL_lt hp hdp x hx,?_,fun j hj=>orbit_at hp hdp hj,fun x hx=>hp.orbit_next hdp (by rw[hpl];exact hx),fun x hx=>?_⟩
 ·exact Nat.succ_pos _
 ·obtain⟨j,rfl⟩:=(hp.mem_orbit hdp).1 hx
  refine face_con hs hes ⟨hd,?_,j,(it_itf _ _ _).symm⟩
  rw[←hpl];exact hp.it_lt hdp j
theorem star_phi_old {y:Nat} (hy:y<s.length) (ho:y∉O):at' (phiL (starC s O)) y=at' (phiL s) y:=by
 obtain⟨k1,k2,k3,k4,k5,_⟩:=star_face hs hes hd hO
 have hyx:=xor_one_lt hes hy
 rw[phiL_at (by rw[starC_length];omega),starC_at (by omega),phiL_at hy]
 unfold starF
 rw[if_pos hyx,if_neg]
 rw[←phiL_at hy]
 exact fun h=>ho ((k5 y hy).1 h)
theorem star_phi_edge {j:Nat} (hj:j<O.length):at' (phiL (starC s O)) (at' O j)=s.length+2*nextI O.length j:=by
 obtain⟨k1,k2,k3,k4,k5,_⟩:=star_face hs hes hd hO
 have hy:=k2 (at' O j) (by rw[at'_eq hj];exact List.getElem_mem _)
 have hyx:=xor_one_lt hes hy
 rw[phiL_at (by rw[starC_length];omega),starC_at (by omega)]
 unfold starF
 have e:at' s (at' O j ^^^ 1)=at' O (nextI O.length j):=by rw[←phiL_at hy,k4 j hj]
 have hn:=nextI_lt hj
 rw[if_pos hyx,e,if_pos (by rw[at'_eq hn];exact List.getElem_mem _),idx_at k1 hn]
theorem star_tris {D:Nat→Prop} {xss:List (List Nat)} (h:RowsF xss D (at' (phiL (starC s O)))) (hD:∀ y,D y→y<s.length∧y∉O):∀ i,i≤O.length →
  RowsF (xss ++ trisL s O i) (fun y=>D y∨∃ j,j<i∧y∈triL s O j) (at' (phiL (starC s O)))
 | 0,_=>by
  unfold trisL
  rw[List.append_nil]
  exact h.congr (fun y=>⟨Or.inl,fun h=>h.elim id fun ⟨j,h,_⟩=>by omega⟩) fun _ _=>rfl
 | i+1,hi=>by
  obtain⟨k1,k2,k3,k4,k5,_⟩:=star_face hs hes hd hO
  have ih:=star_tris h hD i (by omega)
  have hil:i<O.length:=by omega
  have hn:=nextI_lt hil
  have ho:at' O i∈O:=by rw[at'_eq hil];exact List.getElem_mem _
  have hol:=k2 _ ho
  unfold trisL
  rw[←List.append_assoc]
  refine (ih.more (v:=triL s O i) ?_ (fun x hx=>?_) ?_ fun _ _=>rfl).congr (fun y=>?_) fun _ _=>rfl
  ·unfold triL;simp;omega
  ·rintro (h1|⟨j,hj,h1⟩)
   ·obtain⟨h2,h3⟩:=hD x h1
    unfold triL at hx
    simp only[List.mem_cons,List.not_mem_nil,or_false] at hx
    rcases hx with rfl|h4|h4
    ·exact h3 ho
    ·omega
    ·omega
   ·unfold triL at hx h1
    simp only[List.mem_cons,List.not_mem_nil,or_false] at hx h1
    have hjl:j<O.length:=by omega
    have hjo:=k2 _ (show at' O j∈O by rw[at'_eq hjl];exact List.getElem_mem _)
    have c1:at' O i≠at' O j:=fun e=>by
     rw[at'_eq hil,at'_eq hjl] at e
     have:=nodup_inj k1 _ _ e
     omega
    have c2:nextI O.length i≠nextI O.length j:=fun e=>by
     have:=nextI_inj hil hjl e
     omega
    rcases hx with rfl|rfl|rfl <;> rcases h1 with h1|h1|h1 <;> omega
  ·exact Cy.ch.2 ⟨star_phi_edge hs hes hd hO hil,star_phi_in hes hil,star_phi_out hes hil⟩
  ·constructor
   ·rintro ((h|⟨j,h1,h2⟩)|h)
    ·exact Or.inl h
    ·exact Or.inr ⟨j,by omega,h2⟩
    ·exact Or.inr ⟨i,by omega,h⟩
   ·rintro (h|⟨j,h1,h2⟩)
    ·exact Or.inl (Or.inl h)
    ·by_cases e:j=i
     ·exact Or.inr (e ▸ h2)
     ·exact Or.inl (Or.inr ⟨j,by omega,h2⟩)
theorem star_faces:∃ xss:List (List Nat),RowsOf (xss ++ trisL s O O.length) (phiL (starC s O))∧(∀ v,v∈xss→v≠[])∧xss.length+1=(sizesL (phiL s)).length:=by
 obtain⟨k1,k2,k3,k4,k5,_⟩:=star_face hs hes hd hO
 have hp:=phiL_perm hs hes
 have hpl:=phiL_length s
 have h0:=lists_rowsF hp
 rw[hpl] at h0
 have hro:=lists_rows hp
 rw[hpl] at hro
 obtain⟨v,hv,hdv⟩:=List.mem_flatten.1 ((h0.mem d).2 hd)
 have hpe:=List.perm_cons_erase hv
 have h1:=(h0.perm hpe).tail
 have hvO:∀ y,y<s.length→(y∈v↔y∈O):=fun y hy=>by
  have hc:=hro.cyc hp (x:=d) (y:=y) (by rw[hpl];exact hd) (by rw[hpl];exact hy)
  rw[←hO,hp.mem_orbit (by rw[hpl];exact hd)]
  constructor
  ·intro h
   obtain⟨_,_,j,e⟩:=hc.2 ⟨v,hv,hdv,h⟩
   exact⟨j,by rw[it_itf];exact e⟩
  ·rintro⟨j,e⟩
   obtain⟨u,hu,h4,h5⟩:=hc.1 ⟨by rw[hpl];exact hd,by rw[hpl];exact hy,j,by rw[←it_itf];exact e⟩
   have:=h0.uni hu hv h4 hdv
   subst this
   exact h5
 have h2:=h1.congr (E:=fun y=>y<s.length∧y∉O) (g:=at' (phiL (starC s O))) (fun y=>⟨fun h=>⟨h.1,fun ho=>h.2 ((hvO y h.1).2 ho)⟩,fun h=>⟨h.1,fun ho=>h.2 ((hvO y h.1).1 ho)⟩⟩) (fun y hy=>star_phi_old hs hes hd hO hy.1 (fun ho=>hy.2 ((hvO y hy.1).2 ho)))
 have h3:=star_tris hs hes hd hO h2 (fun y hy=>hy) O.length (Nat.le_refl _)
 have hne:=lists_phi_ne hs hes
 refine⟨(listsL (phiL s) s.length).erase v,h3.rows (fun y=>?_) (fun y _=>rfl),fun u hu=>hne u (List.mem_of_mem_erase hu),?_⟩
 ·rw[phiL_length,starC_length]
  constructor
  ·rintro (h|⟨j,hj,h⟩)
   ·omega
   ·unfold triL at h
    simp only[List.mem_cons,List.not_mem_nil,or_false] at h
    have hn:=nextI_lt hj
    have hjo:=k2 _ (show at' O j∈O by rw[at'_eq hj];exact List.getElem_mem _)
    rcases h with h|h|h <;> omega
  ·intro h
   by_cases c1:y<s.length
   ·by_cases c2:y∈O
    ·obtain⟨j,hj,e⟩:=List.getElem_of_mem c2
     refine Or.inr ⟨j,hj,?_⟩
     unfold triL
     rw[at'_eq hj,e]
     exact List.mem_cons_self ..
    ·exact Or.inl ⟨c1,c2⟩
   ·by_cases c2:(y-s.length) % 2=0
    ·obtain⟨i,hi⟩:∃ i,(y-s.length) / 2=i:=⟨_,rfl⟩
     have hil:i<O.length:=by omega
     obtain⟨j,hj,hji⟩:∃ j,j<O.length∧nextI O.length j=i:=by
      by_cases c3:i=0
      ·exact⟨O.length-1,by omega,by unfold nextI;rw[if_neg (by omega),c3]⟩
      ·exact⟨i-1,by omega,by unfold nextI;rw[if_pos (by omega)];omega⟩
     refine Or.inr ⟨j,hj,?_⟩
     unfold triL
     rw[hji]
     simp only[List.mem_cons,List.not_mem_nil,or_false]
     omega
    ·refine Or.inr ⟨(y-s.length) / 2,by omega,?_⟩
     unfold triL
     simp only[List.mem_cons,List.not_mem_nil,or_false]
     omega
 ·rw[List.length_erase_of_mem hv,lists_phi hs hes]
  have:0<(listsL (phiL s) s.length).length:=List.length_pos_of_mem hv
  rw[lists_phi hs hes] at this
  omega
theorem star_grown:GrownL s (starC s O) 1 (O.length-1):=by
 obtain⟨k1,k2,k3,k4,k5,k6⟩:=star_face hs hes hd hO
 have hr:=star_rows hs k1 k2 k3
 have ht:=hr.isPerm
 have hl:=starC_length s O
 have he:(starC s O).length % 2=0:=by rw[hl];omega
 have pt:=Con.per ht
 have ps:=Con.per hs
 have mem:∀ i,i<O.length→at' O i∈O:=fun i hi=>by rw[at'_eq hi];exact List.getElem_mem _
 have val:∀ x,x<s.length+2*O.length→at' (starC s O) x=starF s O x:=fun x hx=>starC_at hx
 have ev:∀ i,i<O.length→at' (starC s O) (s.length+2*i)=at' O i:=fun i hi=>by
  rw[val _ (by omega)];unfold starF
  rw[if_neg (by omega),if_pos (by omega),show (s.length+2*i-s.length) / 2=i by omega]
 have od:∀ i,i<O.length→at' (starC s O) (s.length+2*i+1)=s.length+2*((i+O.length-1) % O.length)+1:=fun i hi=>by
  rw[val _ (by omega)];unfold starF
  rw[if_neg (by omega),if_neg (by omega),show (s.length+2*i+1-s.length) / 2=i by omega]
 have stp:∀ x,x<s.length+2*O.length→Con (starC s O) x (at' (starC s O) x):=fun x hx=>Con.step ht (by rw[hl];exact hx)
 have cv:∀ i,i<O.length→Con (starC s O) (at' O i) (s.length+2*i):=fun i hi=>by
  have:=stp (s.length+2*i) (by omega)
  rw[ev i hi] at this
  exact pt.symm this
 have me:∀ i,(s.length+2*i) ^^^ 1=s.length+2*i+1:=fun i=>xor_add (n:=s.length+2*i) (k:=0) (by omega) (by omega)
 have mo:∀ i,(s.length+2*i+1) ^^^ 1=s.length+2*i:=fun i=>xor_add (n:=s.length+2*i) (k:=1) (by omega) (by omega)
 have split:∀ x,x<s.length+2*O.length→x<s.length∨∃ i,i<O.length∧(x=s.length+2*i∨x=s.length+2*i+1):=fun x hx=>by
  by_cases h:x<s.length
  ·exact Or.inl h
  ·exact Or.inr ⟨(x-s.length) / 2,by omega,by omega⟩
 obtain⟨π,hπ⟩:∃ π:Nat→Nat,π=fun x=>if x<s.length then x else at' O ((x-s.length) / 2):=⟨_,rfl⟩
 have pold:∀ x,x<s.length→π x=x:=fun x hx=>by rw[hπ];exact if_pos hx
 have pe:∀ i,π (s.length+2*i)=at' O i:=fun i=>by
  rw[hπ]
  show (if s.length+2*i<s.length then _ else _)=_
  rw[if_neg (by omega),show (s.length+2*i-s.length) / 2=i by omega]
 have po:∀ i,π (s.length+2*i+1)=at' O i:=fun i=>by
  rw[hπ]
  show (if s.length+2*i+1<s.length then _ else _)=_
  rw[if_neg (by omega),show (s.length+2*i+1-s.length) / 2=i by omega]
 refine⟨ht,he,?_,?_,?_,by rw[hl];omega⟩
 ·refine parts_grow hs hes ht he (by omega) π pold (fun x hx=>?_) (fun x hx=>?_) (fun x hx=>?_) (fun x hx=>?_) (fun x hx=>?_)
  ·rw[hl] at hx
   rcases split x hx with h|⟨i,hi,rfl|rfl⟩
   ·rw[pold x h];exact h
   ·rw[pe];exact k2 _ (mem i hi)
   ·rw[po];exact k2 _ (mem i hi)
  ·rw[hl] at hx
   rcases split x hx with h|⟨i,hi,rfl|rfl⟩
   ·rw[val x hx,pold x h]
    unfold starF
    rw[if_pos h]
    by_cases h1:at' s x∈O
    ·have hi:=List.idxOf_lt_length_of_mem h1
     rw[if_pos h1,pe,at'_eq hi,List.getElem_idxOf hi]
     exact Con.step hs h
    ·rw[if_neg h1,pold _ (hs.lt h)]
     exact Con.step hs h
   ·rw[ev i hi,pe,pold _ (k2 _ (mem i hi))]
    exact ps.refl (k2 _ (mem i hi))
   ·have hm:=Nat.mod_lt (i+O.length-1) k3
    rw[od i hi,po,po]
    exact ps.trans (ps.symm (k6 _ (mem i hi))) (k6 _ (mem _ hm))
  ·rw[hl] at hx
   rcases split x hx with h|⟨i,hi,rfl|rfl⟩
   ·rw[pold x h,pold _ (xor_one_lt hes h)];exact Con.mate hs hes h
   ·rw[me,pe,po];exact ps.refl (k2 _ (mem i hi))
   ·rw[mo,pe,po];exact ps.refl (k2 _ (mem i hi))
  ·have:=stp x (by omega)
   rw[val x (by omega)] at this
   unfold starF at this
   rw[if_pos hx] at this
   by_cases h1:at' s x∈O
   ·have hi:=List.idxOf_lt_length_of_mem h1
    rw[if_pos h1] at this
    have h2:=cv _ hi
    rw[at'_eq hi,List.getElem_idxOf hi] at h2
    exact pt.trans this (pt.symm h2)
   ·rwa [if_neg h1] at this
  ·rw[hl] at hx
   rcases split x hx with h|⟨i,hi,rfl|rfl⟩
   ·rw[pold x h];exact pt.refl (by rw[hl];exact hx)
   ·rw[pe];exact cv i hi
   ·rw[po]
    have:=Con.mate ht he (x:=s.length+2*i) (by rw[hl];omega)
    rw[me] at this
    exact pt.trans (cv i hi) this
 ·rw[hr.count ht (fun v hv=>by
   rcases List.mem_append.1 hv with hv|hv
   ·exact starLs_ne hs _ v hv
   ·rw[List.mem_singleton.1 hv]
    intro e
    have:=hubL_length s.length O.length
    rw[e] at this
    simp at this
    omega),List.length_append,starLs_length hs]
  simp
 ·obtain⟨xss,h1,h2,h3⟩:=star_faces hs hes hd hO
  rw[h1.count (phiL_perm ht he) (fun v hv=>(List.mem_append.1 hv).elim (h2 v) (trisL_ne s O _ v)),List.length_append,trisL_length]
  omega
end
end
end Go.Proofs.YtgphnkkdmlohlaaGreat
