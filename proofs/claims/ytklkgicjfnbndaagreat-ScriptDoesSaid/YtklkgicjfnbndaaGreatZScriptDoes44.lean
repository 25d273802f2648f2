/- What the document does to lists is what the program does to the map: a leaf, a chord, a split, a star, a flip. -/
import Derived.Test.YtklkgicjfnbndaaGreatZScriptDoes41
import Derived.Test.YtklkgicjfnbndaaGreatZScriptDoes39
import Derived.Test.YtklkgicjfnbndaaGreatZScriptDoes26
import Derived.Test.YtklkgicjfnbndaaGreatZScriptDoes43
namespace Go.Proofs.YtklkgicjfnbndaaGreat
section
set_option linter.unusedVariables false
theorem insF_congr {f g:Nat→Nat} {t d x:Nat} (h1:f t=g t) (h2:x≠t→x≠d→f x=g x):insF f t d x=insF g t d x:=by
 unfold insF
 by_cases e:x=t
 ·rw[if_pos e,if_pos e]
 ·rw[if_neg e,if_neg e]
  by_cases e2:x=d
  ·rw[if_pos e2,if_pos e2,h1]
  ·rw[if_neg e2,if_neg e2,h2 e e2]
theorem behind_at {L:List Nat} {d t x:Nat} (hx:x<L.length):at' (behindL L d t) x=insF (at' L) t d x:=by
 unfold behindL insF
 rw[at_set (by rw[List.length_set];exact hx),at_set hx]
 by_cases h:t=x
 ·rw[if_pos h,if_pos h.symm]
 ·rw[if_neg h,if_neg (show ¬ x=t from fun e=>h e.symm)]
  by_cases h2:d=x
  ·rw[if_pos h2,if_pos h2.symm]
  ·rw[if_neg h2,if_neg (show ¬ x=d from fun e=>h2 e.symm)]
theorem at_new2 {s:List Nat} {x:Nat} (h:x<s.length+2):at' (s ++ [s.length,s.length+1]) x=if x<s.length then at' s x else x:=by
 rw[at'_eq (by simp;omega)]
 by_cases h1:x<s.length
 ·rw[List.getElem_append_left h1,if_pos h1,at'_eq h1]
 ·rw[List.getElem_append_right (by omega),if_neg h1]
  obtain rfl|rfl:x=s.length∨x=s.length+1:=by omega
  ·simp
  ·simp
theorem leaf_at {s:List Nat} {d y:Nat} (hd:d<s.length) (hy:y<s.length+2):at' (leafL s d) y=if y=s.length+1 then s.length+1 else insF (at' s) d s.length y:=by
 unfold leafL
 rw[behind_at (by simp;omega)]
 unfold insF
 have hD:=at_new2 (s:=s) (x:=d) (by omega)
 rw[if_pos hd] at hD
 rw[hD,at_new2 hy]
 by_cases h1:y=s.length+1
 ·rw[if_pos h1,if_neg (by omega),if_neg (by omega),if_neg (by omega),h1]
 ·rw[if_neg h1]
  by_cases h2:y=d
  ·rw[if_pos h2,if_pos h2]
  ·rw[if_neg h2,if_neg h2]
   by_cases h3:y=s.length
   ·rw[if_pos h3,if_pos h3]
   ·rw[if_neg h3,if_neg h3,if_pos (by omega)]
theorem cy_one {f:Nat→Nat} {x:Nat} (h:f x=x):Cy f [x]:=Cy.ch.2 h
theorem leaf_rows {s:List Nat} (hs:IsPerm s) {d:Nat} (hd:d<s.length):RowsOf (outL (aftF d s.length) (listsL s s.length) ++ [[s.length+1]]) (leafL s d):=by
 have h1:=((lists_rowsF hs).after hd (Nat.lt_irrefl s.length)).congr (g:=at' (leafL s d)) (fun y=>Iff.rfl) fun y hy=>by rw[leaf_at hd (by omega),if_neg (by omega)]
 refine (h1.more (v:=[s.length+1]) (by simp) (fun x hx=>?_) (cy_one ?_) fun x _=>rfl).rows (fun y=>?_) fun y _=>rfl
 ·rw[List.mem_singleton] at hx;omega
 ·rw[leaf_at hd (by omega),if_pos rfl]
 ·rw[List.mem_singleton,leafL_length];omega
theorem chord_rows {s:List Nat} (hs:IsPerm s) {d e:Nat} (hd:d<s.length) (he:e<s.length):RowsOf (outL (aftF (if d=e then s.length else e) (s.length+1)) (outL (aftF d s.length) (listsL s s.length))) (chordL s d e):=by
 have h1:=(lists_rowsF hs).after hd (Nat.lt_irrefl s.length)
 obtain⟨t,ht⟩:∃ t,(if d=e then s.length else e)=t:=⟨_,rfl⟩
 have htl:t≤s.length:=by rw[←ht];split <;> omega
 unfold chordL
 rw[ht]
 have h2:=h1.after (t:=t) (d:=s.length+1) (by omega) (by omega)
 refine h2.rows (fun y=>by rw[behindL_length,leafL_length];omega) fun y hy=>?_
 rw[behindL_length,leafL_length] at hy
 rw[behind_at (by rw[leafL_length];exact hy)]
 have e1:∀ x,x≤s.length→at' (leafL s d) x=insF (at' s) d s.length x:=fun x hx=>by rw[leaf_at hd (by omega),if_neg (by omega)]
 unfold insF at e1 ⊢
 by_cases h3:y=t
 ·rw[if_pos h3,if_pos h3]
 ·rw[if_neg h3,if_neg h3]
  by_cases h4:y=s.length+1
  ·rw[if_pos h4,if_pos h4,e1 t htl]
  ·rw[if_neg h4,if_neg h4,e1 y (by omega)]
theorem splitL_length (s:List Nat) (d:Nat):(splitL s d).length=s.length+2:=by
 unfold splitL;dsimp only;split <;> simp
theorem cy_two {f:Nat→Nat} {x y:Nat} (h:f x=y) (h2:f y=x):Cy f [x,y]:=Cy.ch.2 ⟨h,h2⟩
theorem split_at {s:List Nat} (hs:IsPerm s) {d m y:Nat} (hm:d ^^^ 1=m) (hml:m<s.length) (hy:y<s.length+2):
  at' (splitL s d) y=if y=m then s.length else if y=s.length then m else if y=s.length+1 then (if at' s m=m then s.length+1 else at' s m) else if at' s y=m then s.length+1 else at' s y:=by
 unfold splitL
 dsimp only
 rw[hm]
 obtain⟨hk1,hk2⟩:=at_invL hs hml
 obtain⟨k,hk⟩:∃ k,at' (invL s) m=k:=⟨_,rfl⟩
 rw[hk] at hk1 hk2 ⊢
 have hkm:k=m↔at' s m=m:=⟨fun h=>by rw[h] at hk1;exact hk1,fun h=>hs.inj hk2 hml (by rw[hk1,h])⟩
 have hL:(s ++ [s.length,s.length+1]).length=s.length+2:=by simp
 have hM:=at_new2 (s:=s) (x:=m) (by omega)
 rw[if_pos hml] at hM
 have key:∀ L:List Nat,L.length=s.length+2→at' ((L.set s.length m).set m s.length) y=if y=m then s.length else if y=s.length then m else at' L y:=fun L hl=>by
  rw[at_set (by rw[List.length_set,hl];exact hy),at_set (by rw[hl];exact hy)]
  by_cases h:m=y
  ·rw[if_pos h,if_pos h.symm]
  ·rw[if_neg h,if_neg (show ¬ y=m from fun e=>h e.symm)]
   by_cases h2:s.length=y
   ·rw[if_pos h2,if_pos h2.symm]
   ·rw[if_neg h2,if_neg (show ¬ y=s.length from fun e=>h2 e.symm)]
 rw[key _ (by split <;> simp)]
 by_cases h1:y=m
 ·rw[if_pos h1,if_pos h1]
 rw[if_neg h1,if_neg h1]
 by_cases h2:y=s.length
 ·rw[if_pos h2,if_pos h2]
 rw[if_neg h2,if_neg h2]
 by_cases hkk:k=m
 ·rw[if_pos hkk,at_set (by rw[hL];exact hy),at_new2 hy]
  by_cases h3:y=s.length+1
  ·rw[if_pos h3.symm,if_pos h3,if_pos (hkm.1 hkk)]
  ·rw[if_neg (fun e=>h3 e.symm),if_neg h3,if_pos (by omega),if_neg]
   intro e
   exact h1 ((hs.inj (by omega) hk2 (e.trans hk1.symm)).trans hkk)
 ·rw[if_neg hkk,at_set (by rw[List.length_set,hL];exact hy),at_set (by rw[hL];exact hy),at_new2 hy,hM]
  by_cases h3:y=s.length+1
  ·rw[if_pos h3.symm,if_pos h3,if_neg (fun e=>hkk (hkm.2 e))]
  ·rw[if_neg (fun e=>h3 e.symm),if_neg h3]
   by_cases h4:k=y
   ·rw[if_pos h4,if_pos (show at' s y=m by rw[←h4];exact hk1)]
   ·rw[if_neg h4,if_pos (show y<s.length by omega),if_neg (show ¬ at' s y=m from fun e=>h4 (hs.inj (by omega) hk2 (e.trans hk1.symm)).symm)]
theorem split_rows {s:List Nat} (hs:IsPerm s) {d m:Nat} (hm:d ^^^ 1=m) (hml:m<s.length):RowsOf (outL (witF m) (outL (aftF m (s.length+1)) (listsL s s.length)) ++ [[s.length,m]]) (splitL s d):=by
 have h1:=((lists_rowsF hs).after (t:=m) (d:=s.length+1) hml (by omega)).without m
 have h2:=h1.congr (g:=at' (splitL s d)) (fun y=>Iff.rfl) fun y hy=>by
  have hne:y≠m:=hy.2
  have hy2:y<s.length∨y=s.length+1:=hy.1
  rw[split_at hs hm hml (by omega),if_neg hne,if_neg (by omega)]
  have hvm:insF (at' s) m (s.length+1) m=s.length+1:=by unfold insF;rw[if_pos rfl]
  unfold delF
  rw[hvm]
  unfold insF
  rw[if_neg hne]
  by_cases h3:y=s.length+1
  ·rw[if_pos h3,if_pos h3]
  ·rw[if_neg h3,if_neg h3]
 refine (h2.more (v:=[s.length,m]) ?_ (fun x hx=>?_) (cy_two ?_ ?_) fun x _=>rfl).rows (fun y=>?_) fun y _=>rfl
 ·simp;omega
 ·simp at hx;omega
 ·rw[split_at hs hm hml (by omega),if_neg (by omega),if_pos rfl]
 ·rw[split_at hs hm hml (by omega),if_pos rfl]
 ·rw[splitL_length]
  simp
  omega
def starLs (s O:List Nat):Nat→List (List Nat)
 | 0=>listsL s s.length
 | i+1=>outL (aftF (at' (invL s) (at' O i)) (s.length+2*i)) (starLs s O i)
def hubL (n:Nat):Nat→List Nat
 | 0=>[]
 | i+1=>(n+2*i+1) :: hubL n i
theorem hubL_length (n:Nat):∀ i,(hubL n i).length=i
 | 0=>rfl
 | i+1=>by unfold hubL;rw[List.length_cons,hubL_length n i]
theorem hubL_at (n:Nat):∀ {i j:Nat},j<i→at' (hubL n i) j=n+2*(i-1-j)+1
 | i+1,0,_=>by show n+2*i+1=_;simp
 | i+1,j+1,h=>by
  show at' (hubL n i) j=_
  rw[hubL_at n (by omega),show i+1-1-(j+1)=i-1-j by omega]
theorem hubL_mem (n:Nat):∀ {i x:Nat},x∈hubL n i↔∃ j,j<i∧x=n+2*j+1
 | 0,x=>⟨fun h=>(by cases h),fun ⟨j,h,_⟩=>(by omega)⟩
 | i+1,x=>by
  unfold hubL
  rw[List.mem_cons,hubL_mem n]
  constructor
  ·rintro (h|⟨j,h1,h2⟩)
   ·exact⟨i,by omega,h⟩
   ·exact⟨j,by omega,h2⟩
  ·rintro⟨j,h1,h2⟩
   by_cases h:j=i
   ·exact Or.inl (h ▸ h2)
   ·exact Or.inr ⟨j,by omega,h2⟩
theorem hubL_nodup (n:Nat):∀ i,(hubL n i).Nodup
 | 0=>List.nodup_nil
 | i+1=>by
  unfold hubL
  rw[List.nodup_cons,hubL_mem]
  exact⟨fun ⟨j,h1,h2⟩=>by omega,hubL_nodup n i⟩
theorem starLs_rows {s O:List Nat} (hs:IsPerm s) (hO:O.Nodup) (hlt:∀ x,x∈O→x<s.length):∀ i,i≤O.length→RowsF (starLs s O i) (fun y=>y<s.length∨∃ j,j<i∧y=s.length+2*j) (stF s O i)
 | 0,_=>(lists_rowsF hs).congr (fun y=>⟨Or.inl,fun h=>h.elim id fun ⟨j,h,_⟩=>by omega⟩) fun y hy=>by
  rw[stF_old hy,if_neg (by simp)]
 | i+1,hi=>by
  have ih:=starLs_rows hs hO hlt i (by omega)
  have hil:i<O.length:=by omega
  have hx:=hlt (at' O i) (by rw[at'_eq hil];exact List.getElem_mem hil)
  obtain⟨hb1,hb2⟩:=at_invL hs hx
  obtain⟨t,ht⟩:∃ t,at' (invL s) (at' O i)=t:=⟨_,rfl⟩
  rw[ht] at hb1 hb2
  have h1:=ih.after (t:=t) (d:=s.length+2*i) (Or.inl hb2) (fun h=>by rcases h with h|⟨j,h1,h2⟩ <;> omega)
  have e:starLs s O (i+1)=outL (aftF t (s.length+2*i)) (starLs s O i):=by rw[←ht];rfl
  rw[e]
  refine h1.congr (fun y=>?_) fun y hy=>?_
  ·constructor
   ·rintro ((h|⟨j,h1,h2⟩)|h)
    ·exact Or.inl h
    ·exact Or.inr ⟨j,by omega,h2⟩
    ·exact Or.inr ⟨i,by omega,h⟩
   ·rintro (h|⟨j,h1,h2⟩)
    ·exact Or.inl (Or.inl h)
    ·by_cases h3:j=i
     ·exact Or.inr (h3 ▸ h2)
     ·exact Or.inl (Or.inr ⟨j,by omega,h2⟩)
  ·have htv:stF s O i t=at' O i:=by rw[stF_old hb2,hb1,if_neg (not_mem_take hO hil)]
   unfold insF
   rw[htv]
   by_cases h2:y=t
   ·rw[if_pos h2,h2,stF_old hb2,hb1,if_pos ((mem_take_succ hil).2 (Or.inr rfl)),idx_at hO hil]
   ·rw[if_neg h2]
    by_cases h3:y=s.length+2*i
    ·rw[if_pos h3,stF_even (by omega) (by omega),h3,show (s.length+2*i-s.length) / 2=i by omega]
    ·rw[if_neg h3]
     by_cases h4:y<s.length
     ·rw[stF_old h4,stF_old h4]
      by_cases h5:at' s y∈O.take i
      ·rw[if_pos h5,if_pos ((mem_take_succ hil).2 (Or.inl h5))]
      ·rw[if_neg h5,if_neg]
       intro h6
       rcases (mem_take_succ hil).1 h6 with h7|h7
       ·exact h5 h7
       ·exact h2 (hs.inj h4 hb2 (h7.trans hb1.symm))
     ·have h6:(y-s.length) % 2=0:=by
       rcases hy with (h|⟨j,h1,h2⟩)|h <;> omega
      rw[stF_even h4 h6,stF_even h4 h6]
theorem star_rows {s O:List Nat} (hs:IsPerm s) (hO:O.Nodup) (hlt:∀ x,x∈O→x<s.length) (hm:0<O.length):RowsOf (starLs s O O.length ++ [hubL s.length O.length]) (starC s O):=by
 have h1:=(starLs_rows hs hO hlt O.length (Nat.le_refl _)).congr (g:=at' (starC s O)) (fun y=>Iff.rfl) fun y hy=>by
  have hyl:y<s.length+2*O.length:=by rcases hy with h|⟨j,h1,h2⟩ <;> omega
  rw[starC_at hyl]
  unfold starF
  by_cases h4:y<s.length
  ·rw[stF_old h4,if_pos h4,List.take_length]
  ·have h6:(y-s.length) % 2=0:=by
    rcases hy with h|⟨j,h1,h2⟩ <;> omega
   rw[stF_even h4 h6,if_neg h4,if_pos h6]
 refine (h1.more (hubL_nodup _ _) (fun x hx=>?_) (fun j hj=>?_) fun x _=>rfl).rows (fun y=>?_) fun y _=>rfl
 ·obtain⟨j,h2,h3⟩:=(hubL_mem _).1 hx
  rintro (h|⟨k,h4,h5⟩) <;> omega
 ·rw[hubL_length] at hj ⊢
  rw[hubL_at _ hj,starC_at (by omega)]
  unfold starF
  rw[if_neg (by omega),if_neg (by omega),show (s.length+2*(O.length-1-j)+1-s.length) / 2=O.length-1-j by omega]
  unfold nextI
  by_cases h:j+1<O.length
  ·rw[if_pos h,hubL_at _ h,show O.length-1-j+O.length-1=(O.length-1-(j+1))+O.length by omega,Nat.add_mod_right,Nat.mod_eq_of_lt (by omega)]
  ·rw[if_neg h,hubL_at _ hm,show O.length-1-j=0 by omega,Nat.zero_add,Nat.mod_eq_of_lt (by omega)]
   rfl
 ·rw[starC_length,hubL_mem]
  constructor
  ·rintro ((h|⟨j,h1,h2⟩)|⟨j,h1,h2⟩) <;> omega
  ·intro h
   by_cases h1:y<s.length
   ·exact Or.inl (Or.inl h1)
   ·by_cases h2:(y-s.length) % 2=0
    ·exact Or.inl (Or.inr ⟨(y-s.length) / 2,by omega,by omega⟩)
    ·exact Or.inr ⟨(y-s.length) / 2,by omega,by omega⟩
theorem flipL_length (s:List Nat) (d:Nat):(flipL s d).length=s.length:=by
 unfold flipL;dsimp only
 rw[behindL_length,List.length_set,behindL_length];simp
theorem flip_rows {s:List Nat} (hs:IsPerm s) {d m a b:Nat} (hm:d ^^^ 1=m) (hd:d<s.length) (hml:m<s.length)
  (ha:at' (invL s) (at' (phiL s) (at' (phiL s) d))=a) (hb:at' (invL s) (at' (phiL s) (at' (phiL s) m))=b) (hal:a<s.length) (hbl:b<s.length)
  (h1:at' s d≠d) (h2:at' s m≠m) (h3:at' s d≠m) (h4:at' s m≠d) (ha1:a≠d) (ha2:a≠m) (hb1:b≠d) (hb2:b≠m):
  RowsOf (outL (aftF b m) (outL (aftF a d) (outL (witF m) (outL (witF d) (listsL s s.length))))) (flipL s d):=by
 have hdm:d≠m:=fun e=>by rw[←hm,xor_one] at e;split at e <;> omega
 have r1:=((((lists_rowsF hs).without d).without m).after (t:=a) (d:=d) ⟨⟨hal,ha1⟩,ha2⟩ (fun h=>h.1.2 rfl)).after (t:=b) (d:=m) (Or.inl ⟨⟨hbl,hb1⟩,hb2⟩) (fun h=>h.elim (fun h=>h.2 rfl) fun e=>hdm e.symm)
 refine r1.rows (fun y=>?_) fun y hy=>?_
 ·rw[flipL_length]
  constructor
  ·rintro ((h|h)|h)
   ·exact h.1.1
   ·omega
   ·omega
  ·intro h
   by_cases e1:y=m
   ·exact Or.inr e1
   ·by_cases e2:y=d
    ·exact Or.inl (Or.inr e2)
    ·exact Or.inl (Or.inl ⟨⟨h,e2⟩,e1⟩)
 rw[flipL_length] at hy
 obtain⟨hd1,hd2⟩:=at_invL hs hd
 obtain⟨hm1,hm2⟩:=at_invL hs hml
 unfold flipL
 dsimp only
 rw[hm,ha,hb]
 obtain⟨p,hp⟩:∃ p,at' (invL s) d=p:=⟨_,rfl⟩
 obtain⟨q,hq⟩:∃ q,at' (invL s) m=q:=⟨_,rfl⟩
 rw[hp] at hd1 hd2
 rw[hq] at hm1 hm2
 rw[hp,hq]
 obtain⟨L1,hL1⟩:∃ L,(s.set p (at' s d)).set q (at' s m)=L:=⟨_,rfl⟩
 have hl1:L1.length=s.length:=by rw[←hL1];simp
 rw[hL1]
 have hpq:p≠q:=fun e=>hdm (by rw[←hd1,e,hm1])
 have hpd:p≠d:=fun e=>h1 (by rw[←e,hd1,e])
 have hqm:q≠m:=fun e=>h2 (by rw[←e,hm1,e])
 have hpm:p≠m:=fun e=>h4 (by rw[←e,hd1])
 have hqd:q≠d:=fun e=>h3 (by rw[←e,hm1])
 have v1:∀ x,x<s.length→at' L1 x=delF (delF (at' s) d) m x:=fun x hx=>by
  rw[←hL1,at_set (by rw[List.length_set];exact hx),at_set hx]
  have gm:delF (at' s) d m=at' s m:=by unfold delF;rw[if_neg h4]
  unfold delF at gm ⊢
  rw[gm]
  by_cases e1:q=x
  ·have hv:at' s x=m:=by rw[←e1];exact hm1
   rw[if_pos e1,hv,if_neg (show ¬ m=d from fun e=>hdm e.symm),if_pos rfl]
  ·rw[if_neg e1]
   by_cases e2:p=x
   ·have hv:at' s x=d:=by rw[←e2];exact hd1
    rw[if_pos e2,hv,if_pos rfl,if_neg h3]
   ·rw[if_neg e2,if_neg (show ¬ at' s x=d from fun e=>e2 (hs.inj hd2 hx (hd1.trans e.symm))),if_neg (show ¬ at' s x=m from fun e=>e1 (hs.inj hm2 hx (hm1.trans e.symm)))]
 rw[behind_at (by rw[List.length_set,behindL_length,List.length_set,hl1];exact hy)]
 have v2:∀ x,x<s.length→x≠m→at' ((behindL (L1.set d d) d a).set m m) x=insF (delF (delF (at' s) d) m) a d x:=fun x hx hxm=>by
  rw[at_set (by rw[behindL_length,List.length_set,hl1];exact hx),if_neg (fun e=>hxm e.symm),behind_at (by rw[List.length_set,hl1];exact hx)]
  refine insF_congr ?_ fun _ e2=>?_
  ·rw[at_set (by rw[hl1];exact hal),if_neg (show ¬ d=a from fun e=>ha1 e.symm),v1 a hal]
  ·rw[at_set (by rw[hl1];exact hx),if_neg (show ¬ d=x from fun e=>e2 e.symm),v1 x hx]
 have ub:∀ (F:Nat→Nat) (t u x:Nat),insF F t u x=if x=t then u else if x=u then F t else F x:=fun _ _ _ _=>rfl
 rw[ub _ b m y,ub _ b m y,v2 b hbl hb2]
 by_cases e1:y=b
 ·rw[if_pos e1,if_pos e1]
 ·rw[if_neg e1,if_neg e1]
  by_cases e2:y=m
  ·rw[if_pos e2,if_pos e2]
  ·rw[if_neg e2,if_neg e2,v2 y hy e2]
theorem flip_darts {s:List Nat} (hs:IsPerm s) (he:s.length % 2=0) {d m:Nat} (hm:d ^^^ 1=m) (hd:d<s.length) (hml:m<s.length)
  (k1:(orbitL (phiL s) d).length=3) (k2:(orbitL (phiL s) m).length=3) (k3:m∉orbitL (phiL s) d) (k4:d∉orbitL (phiL s) m) (h1:at' s d≠d) (h2:at' s m≠m):
  at' s d≠m∧at' s m≠d∧at' (invL s) (at' (phiL s) (at' (phiL s) d))<s.length∧at' (invL s) (at' (phiL s) (at' (phiL s) m))<s.length ∧
   at' (invL s) (at' (phiL s) (at' (phiL s) d))≠d∧at' (invL s) (at' (phiL s) (at' (phiL s) d))≠m∧at' (invL s) (at' (phiL s) (at' (phiL s) m))≠d∧at' (invL s) (at' (phiL s) (at' (phiL s) m))≠m:=by
 have hp:=phiL_perm hs he
 have hl:(phiL s).length=s.length:=phiL_length s
 have hmm:m ^^^ 1=d:=by rw[←hm,xor_one_one]
 have pd:at' (phiL s) d=at' s m:=by rw[phiL_at hd,hm]
 have pm:at' (phiL s) m=at' s d:=by rw[phiL_at hml,hmm]
 have nofix:∀ x,x<s.length→(orbitL (phiL s) x).length=3→at' (phiL s) x≠x:=fun x hx hl3 e=>by
  obtain⟨c,hc,hcl,ho⟩:=orbitL_map hp (i:=x) (by rw[hl];exact hx)
  have hc3:c=3:=by rw[ho] at hl3;simpa using hl3
  have hn:=orbitL_nodup hp (i:=x) (by rw[hl];exact hx)
  rw[ho,hc3] at hn
  have e1:it (phiL s) 0 x=x:=rfl
  have e2:it (phiL s) 1 x=at' (phiL s) x:=rfl
  simp[List.range_succ,e1,e2,e] at hn
 have inO:∀ x,x<s.length→∀ y,y<s.length→y∈orbitL (phiL s) x→at' (phiL s) y∈orbitL (phiL s) x:=fun x hx y hy hm=>(hp.orbit_next (by rw[hl];exact hx) (by rw[hl];exact hy)).2 hm
 have self:∀ x,x∈orbitL (phiL s) x:=fun x=>List.mem_cons_self ..
 have hfd:=inO d hd d hd (self d)
 have hfm:=inO m hml m hml (self m)
 have u1:at' (phiL s) d<s.length:=by rw[←hl];exact hp.lt (by rw[hl];exact hd)
 have u2:at' (phiL s) m<s.length:=by rw[←hl];exact hp.lt (by rw[hl];exact hml)
 have back:∀ x,x<s.length→at' (invL s) (at' (phiL s) x)=x ^^^ 1:=fun x hx=>by
  rw[phiL_at hx,invL_at hs (xor_one_lt he hx)]
 rw[back _ u1,back _ u2]
 refine⟨fun e=>nofix m hml k2 (by rw[pm,e]),fun e=>nofix d hd k1 (by rw[pd,e]),xor_one_lt he u1,xor_one_lt he u2,fun e=>?_,fun e=>?_,fun e=>?_,fun e=>?_⟩
 ·have:at' (phiL s) d=m:=by rw[←xor_one_one (at' (phiL s) d),e,hm]
  rw[this] at hfd
  exact k3 hfd
 ·have:at' (phiL s) d=d:=by rw[←xor_one_one (at' (phiL s) d),e,hmm]
  exact nofix d hd k1 this
 ·have:at' (phiL s) m=m:=by rw[←xor_one_one (at' (phiL s) m),e,hm]
  exact nofix m hml k2 this
 ·have:at' (phiL s) m=d:=by rw[←xor_one_one (at' (phiL s) m),e,hmm]
  rw[this] at hfm
  exact k4 hfm
end
section
set_option linter.unusedVariables false
def SameRow (xss:List (List Nat)) (x y:Nat):Prop:=∃ v,v∈xss∧x∈v∧y∈v
theorem RowsF.perm {xss yss:List (List Nat)} {D:Nat→Prop} {f:Nat→Nat} (h:RowsF xss D f) (p:xss.Perm yss):RowsF yss D f:=
 ⟨p.flatten.nodup_iff.1 h.nd,fun y=>by rw[←p.flatten.mem_iff];exact h.mem y,fun v hv=>h.next v (p.mem_iff.2 hv)⟩
theorem RowsF.tail {xss:List (List Nat)} {v:List Nat} {D:Nat→Prop} {f:Nat→Nat} (h:RowsF (v :: xss) D f):RowsF xss (fun y=>D y∧y∉v) f:=by
 have hn:=h.nd
 rw[List.flatten_cons,List.nodup_append] at hn
 refine⟨hn.2.1,fun y=>?_,fun u hu=>h.next u (List.mem_cons_of_mem _ hu)⟩
 rw[←h.mem y,List.flatten_cons,List.mem_append]
 exact⟨fun hy=>⟨Or.inr hy,fun hv=>hn.2.2 y hv y hy rfl⟩,fun hy=>hy.1.resolve_left hy.2⟩
theorem RowsF.uni {xss:List (List Nat)} {D:Nat→Prop} {f:Nat→Nat} (h:RowsF xss D f) {u v:List Nat} {x:Nat} (hu:u∈xss) (hv:v∈xss) (hxu:x∈u) (hxv:x∈v):u=v:=by
 induction xss generalizing D with
 | nil=>cases hu
 | cons w xss ih=>
  have ht:=h.tail
  rcases List.mem_cons.1 hu with rfl|hu'
  ·rcases List.mem_cons.1 hv with rfl|hv'
   ·rfl
   ·exact absurd hxu ((ht.mem x).1 (List.mem_flatten.2 ⟨v,hv',hxv⟩)).2
  ·rcases List.mem_cons.1 hv with rfl|hv'
   ·exact absurd hxv ((ht.mem x).1 (List.mem_flatten.2 ⟨u,hu',hxu⟩)).2
   ·exact ih ht hu' hv'
theorem RowsF.f_mem {xss:List (List Nat)} {D:Nat→Prop} {f:Nat→Nat} (h:RowsF xss D f) {v:List Nat} (hv:v∈xss) {x:Nat} (hx:x∈v):f x∈v:=by
 obtain⟨j,hj,rfl⟩:=List.getElem_of_mem hx
 have hn:=h.next v hv j hj
 rw[at'_eq hj] at hn
 rw[hn,at'_eq (by unfold nextI;split <;> omega)]
 exact List.getElem_mem _
theorem RowsF.row_it {xss:List (List Nat)} {D:Nat→Prop} {f:Nat→Nat} (h:RowsF xss D f) {v:List Nat} (hv:v∈xss):∀ j,j<v.length→itf f j (at' v 0)=at' v j
 | 0,_=>rfl
 | j+1,hj=>by
  rw[itf_succ,h.row_it hv j (by omega),h.next v hv j (by omega)]
  unfold nextI
  rw[if_pos hj]
theorem rows_tally {xss:List (List Nat)}:∀ {D:Nat→Prop} {f:Nat→Nat} {n:Nat},RowsF xss D f→(∀ v,v∈xss→v≠[])→(∀ y,D y→y<n)→tally (fun x=>D x∧Least (SameRow xss) x) n=xss.length:=by
 induction xss with
 | nil=>
  intro D f n h _ _
  exact tally_none fun k _ hk=>by
   have:=(h.mem k).2 hk.1
   cases this
 | cons v xss ih=>
  intro D f n h hne hD
  have ht:=h.tail
  have hi:=ih ht (fun u hu=>hne u (List.mem_cons_of_mem _ hu)) (fun y hy=>hD y hy.1)
  obtain⟨x0,hx0⟩:∃ x,x∈v:=List.exists_mem_of_ne_nil v (hne v (List.mem_cons_self ..))
  obtain⟨a,_,ha,hl⟩:=least_nat (p:=fun x=>x∈v) x0 hx0
  have hDv:∀ x,x∈v→D x:=fun x hx=>(h.mem x).1 (List.mem_flatten.2 ⟨v,List.mem_cons_self ..,hx⟩)
  have hself:∀ x,D x→∃ u,u∈v :: xss∧x∈u:=fun x hx=>by
   obtain⟨u,hu,hxu⟩:=List.mem_flatten.1 ((h.mem x).2 hx)
   exact⟨u,hu,hxu⟩
  rw[tally_but (a:=a) (hD a (hDv a ha)) ⟨hDv a ha,fun y hy hr=>by
   obtain⟨u,hu,hyu,hau⟩:=hr
   have:=h.uni hu (List.mem_cons_self ..) hau ha
   subst this
   exact hl y hy hyu⟩,List.length_cons,←hi]
  refine congrArg (·+1) (tally_congr fun x hx=>?_)
  constructor
  ·rintro⟨⟨h1,h2⟩,h3⟩
   have hxv:x∉v:=fun hm=>by
    rcases Nat.lt_trichotomy a x with e|e|e
    ·exact h2 a e ⟨v,List.mem_cons_self ..,ha,hm⟩
    ·exact h3 e.symm
    ·exact hl x e hm
   exact⟨⟨h1,hxv⟩,fun y hy ⟨u,hu,h4,h5⟩=>h2 y hy ⟨u,List.mem_cons_of_mem _ hu,h4,h5⟩⟩
  ·rintro⟨⟨h1,h2⟩,h3⟩
   refine⟨⟨h1,fun y hy ⟨u,hu,h4,h5⟩=>?_⟩,fun e=>h2 (e ▸ ha)⟩
   rcases List.mem_cons.1 hu with rfl|hu
   ·exact h2 h5
   ·exact h3 y hy ⟨u,hu,h4,h5⟩
theorem RowsOf.rowsF {xss:List (List Nat)} {T:List Nat} (h:RowsOf xss T):RowsF xss (· < T.length) (at' T):=⟨h.nd,h.mem,fun v hv=>h.next v hv⟩
theorem RowsOf.cyc {xss:List (List Nat)} {T:List Nat} (h:RowsOf xss T) (hT:IsPerm T) {x y:Nat} (hx:x<T.length) (hy:y<T.length):Go.Proofs.YtklkgicjfnbndaaGreat.cyc T.length (at' T) x y↔SameRow xss x y:=by
 have hf:=h.rowsF
 constructor
 ·rintro⟨_,_,j,rfl⟩
  obtain⟨v,hv,hxv⟩:=List.mem_flatten.1 ((h.mem x).2 hx)
  have key:∀ j,itf (at' T) j x∈v:=fun j=>by
   induction j with
   | zero=>exact hxv
   | succ j ih=>rw[itf_succ];exact hf.f_mem hv ih
  exact⟨v,hv,hxv,key j⟩
 ·rintro⟨v,hv,hxv,hyv⟩
  have hp:=hT.pm.per
  have key:∀ z,z∈v→Go.Proofs.YtklkgicjfnbndaaGreat.cyc T.length (at' T) (at' v 0) z:=fun z hz=>by
   obtain⟨j,hj,rfl⟩:=List.getElem_of_mem hz
   have h0:at' v 0<T.length:=(h.mem _).1 (List.mem_flatten.2 ⟨v,hv,by rw[at'_eq (by omega)];exact List.getElem_mem _⟩)
   exact⟨h0,(h.mem _).1 (List.mem_flatten.2 ⟨v,hv,hz⟩),j,by rw[hf.row_it hv j hj,at'_eq hj]⟩
  exact hp.trans (hp.symm (key x hxv)) (key y hyv)
theorem RowsOf.count {xss:List (List Nat)} {T:List Nat} (h:RowsOf xss T) (hT:IsPerm T) (hne:∀ v,v∈xss→v≠[]):(sizesL T).length=xss.length:=by
 rw[sizesL_tally hT,←rows_tally h.rowsF hne (fun y hy=>hy)]
 refine tally_congr fun x hx=>⟨fun hl=>⟨hx,fun y hy hr=>hl y hy ((h.cyc hT (by omega) hx).2 hr)⟩,fun hl y hy hr=>hl.2 y hy ((h.cyc hT (by omega) hx).1 hr)⟩
theorem RowsOf.isPerm {xss:List (List Nat)} {T:List Nat} (h:RowsOf xss T):IsPerm T:=by
 have hf:=h.rowsF
 refine IsPerm.of_inj (fun i hi=>?_) (fun i j hi hj e=>?_)
 ·obtain⟨v,hv,hiv⟩:=List.mem_flatten.1 ((h.mem i).2 hi)
  exact (h.mem _).1 (List.mem_flatten.2 ⟨v,hv,hf.f_mem hv hiv⟩)
 ·obtain⟨v,hv,hiv⟩:=List.mem_flatten.1 ((h.mem i).2 hi)
  obtain⟨u,hu,hju⟩:=List.mem_flatten.1 ((h.mem j).2 hj)
  have h1:=hf.f_mem hv hiv
  have h2:=hf.f_mem hu hju
  rw[←e] at h2
  have:=hf.uni hv hu h1 h2
  subst this
  obtain⟨a,ha,rfl⟩:=List.getElem_of_mem hiv
  obtain⟨b,hb,rfl⟩:=List.getElem_of_mem hju
  have ea:=h.next v hv a ha
  have eb:=h.next v hv b hb
  rw[at'_eq ha] at ea
  rw[at'_eq hb] at eb
  rw[ea,eb,at'_eq (by unfold nextI;split <;> omega),at'_eq (by unfold nextI;split <;> omega)] at e
  have hnx:=nodup_inj (hf.rowNd hv) (by unfold nextI;split <;> omega) (by unfold nextI;split <;> omega) e
  have:a=b:=by unfold nextI at hnx;split at hnx <;> split at hnx <;> omega
  subst this
  rfl
theorem lists_ne {s:List Nat} (hs:IsPerm s):∀ v,v∈listsL s s.length→v≠[]:=fun v hv e=>by
 obtain⟨k,hk,h⟩:=(lists_all hs).2.2 v hv
 rw[e] at h
 cases h
theorem lists_count {s:List Nat} (hs:IsPerm s):(listsL s s.length).length=(sizesL s).length:=((lists_rows hs).count hs (lists_ne hs)).symm
theorem after_ne {xss:List (List Nat)} {t d:Nat} (h:∀ v,v∈xss→v≠[]):∀ v,v∈outL (aftF t d) xss→v≠[]:=fun v hv=>by
 unfold outL at hv
 obtain⟨u,hu,rfl⟩:=List.mem_map.1 hv
 obtain⟨x,hx⟩:=List.exists_mem_of_ne_nil u (h u hu)
 have:x∈u.flatMap (aftF t d):=List.mem_flatMap.2 ⟨x,hx,by unfold aftF;split <;> simp_all⟩
 exact List.ne_nil_of_mem this
theorem outL_len (f:Nat→List Nat) (xss:List (List Nat)):(outL f xss).length=xss.length:=by unfold outL;rw[List.length_map]
theorem tally_more {p:Nat→Prop} {n:Nat}:∀ {m:Nat},n≤m→(∀ k,n≤k→k<m→¬ p k)→tally p m=tally p n
 | 0,h,_=>by
  obtain rfl:n=0:=by omega
  rfl
 | m+1,h,hk=>by
  by_cases e:n=m+1
  ·rw[e]
  ·rw[tally_succ,ind_no (hk m (by omega) (by omega)),tally_more (show n≤m by omega) fun k h1 h2=>hk k h1 (by omega)]
   omega
theorem parts_grow {s t:List Nat} (hs:IsPerm s) (hes:s.length % 2=0) (ht:IsPerm t) (het:t.length % 2=0) (hl:s.length≤t.length) (π:Nat→Nat)
  (h0:∀ x,x<s.length→π x=x) (h1:∀ x,x<t.length→π x<s.length) (h2:∀ x,x<t.length→Con s (π x) (π (at' t x))) (h3:∀ x,x<t.length→Con s (π x) (π (x ^^^ 1)))
  (h4:∀ x,x<s.length→Con t x (at' s x)) (h5:∀ x,x<t.length→Con t (π x) x):partsN t=partsN s:=by
 have ps:=Con.per hs
 have pt:=Con.per ht
 have up:∀ {x y},Con t x y→Con s (π x) (π y):=fun {x y} h=>by
  have:(fun a b=>a<t.length∧b<t.length∧Con s (π a) (π b)) x y:=by
   refine Con.sub ht (r:=fun a b=>a<t.length∧b<t.length∧Con s (π a) (π b)) ⟨fun hx=>⟨hx,hx,ps.refl (h1 _ hx)⟩,fun h=>⟨h.2.1,h.1,ps.symm h.2.2⟩,fun h k=>⟨h.1,k.2.1,ps.trans h.2.2 k.2.2⟩,fun h=>h.1⟩ (fun x hx=>⟨hx,ht.lt hx,h2 x hx⟩) (fun x hx=>⟨hx,xor_one_lt het hx,h3 x hx⟩) h
  exact this.2.2
 have down:∀ {x y},Con s x y→Con t x y:=fun {x y} h=>by
  have:(fun a b=>a<s.length∧b<s.length∧Con t a b) x y:=by
   refine Con.sub hs (r:=fun a b=>a<s.length∧b<s.length∧Con t a b) ⟨fun hx=>⟨hx,hx,pt.refl (by omega)⟩,fun h=>⟨h.2.1,h.1,pt.symm h.2.2⟩,fun h k=>⟨h.1,k.2.1,pt.trans h.2.2 k.2.2⟩,fun h=>h.1⟩ (fun x hx=>⟨hx,hs.lt hx,h4 x hx⟩) (fun x hx=>⟨hx,xor_one_lt hes hx,Con.mate ht het (by omega)⟩) h
  exact this.2.2
 have e1:partsN t=tally (Least (Con t)) t.length:=(partsL_ord ht het).cnt_eq (Nat.le_refl _)
 have e2:partsN s=tally (Least (Con s)) s.length:=(partsL_ord hs hes).cnt_eq (Nat.le_refl _)
 rw[e1,e2,tally_more hl fun k hk hk2 hL=>hL (π k) (by have:=h1 k hk2;omega) (h5 k hk2)]
 refine tally_congr fun x hx=>⟨fun hL y hy h=>hL y hy (down h),fun hL y hy h=>hL y hy ?_⟩
 have:=up h
 rw[h0 x hx,h0 y (by omega)] at this
 exact this
end
section
open Go.RowKit
set_option linter.unusedVariables false
structure OwnRR (R:Reg) (B:Nat) (w:World) (st v:Value) (S:List Nat) (vs:List Value) (xss:List (List Nat)):Prop where
 ost:OwnI R B 3 w st (toI S)
 ov:OwnV R B 25 1 w v xss.length vs
 len:vs.length=xss.length
 row:∀ i,i<xss.length→OwnI R B 3 w (vs.getD i nilS) (toI (xss.getD i []))
 sv:∀ k,st.ownBlock=some k→v.ownBlock≠some k
 sr:∀ i,i<xss.length→∀ k,st.ownBlock=some k→(vs.getD i nilS).ownBlock≠some k
 vr:∀ i,i<xss.length→∀ k,v.ownBlock=some k→(vs.getD i nilS).ownBlock≠some k
 rr:∀ i j,i<xss.length→j<xss.length→i≠j→∀ k,(vs.getD i nilS).ownBlock=some k→(vs.getD j nilS).ownBlock≠some k
theorem getD_set {α:Type} {xs:List α} {i j:Nat} {x d:α} (hi:i<xs.length):(xs.set i x).getD j d=if j=i then x else xs.getD j d:=by
 rw[List.getD_eq_getElem?_getD,List.getD_eq_getElem?_getD,List.getElem?_set]
 by_cases h:i=j
 ·subst h
  rw[if_pos rfl,if_pos rfl,if_pos hi]
  rfl
 ·rw[if_neg h,if_neg (fun e=>h e.symm)]
theorem getD_app {α:Type} {xs:List α} {j:Nat} {x d:α}:(xs ++ [x]).getD j d=if j=xs.length then x else xs.getD j d:=by
 rw[List.getD_eq_getElem?_getD,List.getD_eq_getElem?_getD]
 by_cases h:j=xs.length
 ·rw[if_pos h,h];simp
 ·rw[if_neg h]
  by_cases h1:j<xs.length
  ·rw[List.getElem?_append_left h1]
  ·rw[List.getElem?_eq_none (by simp;omega),List.getElem?_eq_none (by omega)]
section
variable {R : Reg} {B : Nat} {w : World} {st v : Value} {S : List Nat} {vs : List Value} {xss : List (List Nat)} (h : OwnRR R B w st v S vs xss)
include h
theorem OwnRR.kept {w':World} {row:Option Nat} (hg:w.grownBy w' row) (hs:∀ k,row=some k→w.heap.size≤k):OwnRR R B w' st v S vs xss:=by
 have key:∀ (u:Value),(∀ k,u.ownBlock=some k→B≤k∧k<w.heap.size)→u.ownBlock=none∨u.ownBlock≠row:=fun u hu=>by
  cases e:u.ownBlock with
  | none=>exact Or.inl rfl
  | some k=>exact Or.inr fun e2=>by have:=hs k e2.symm;have:=(hu k e).2;omega
 exact⟨h.ost.kept hg (key _ h.ost.lt),h.ov.kept hg (key _ h.ov.lt),h.len,fun i hi=>(h.row i hi).kept hg (key _ (h.row i hi).lt),h.sv,h.sr,h.vr,h.rr⟩
theorem OwnRR.alloc (o:Obj):OwnRR R B (w.alloc o) st v S vs xss:=h.kept (World.grownBy_alloc w o none) (fun k e=>by cases e)
theorem OwnRR.drew:OwnRR R B w.drew st v S vs xss:=⟨h.ost.drew,h.ov.drew,h.len,fun i hi=>(h.row i hi).drew,h.sv,h.sr,h.vr,h.rr⟩
theorem OwnRR.pushS {w':World} {st':Value} {x:Nat} (ho:OwnI R B 3 w' st' (toI (S ++ [x]))) (hg:w.grownBy w' st.ownBlock) (hs:∀ k,st'.ownBlock=some k→st.ownBlock=some k∨w.heap.size≤k):OwnRR R B w' st' v (S ++ [x]) vs xss:=by
 have key:∀ (u:Value),(∀ k,st.ownBlock=some k→u.ownBlock≠some k)→u.ownBlock=none∨u.ownBlock≠st.ownBlock:=fun u hu=>by
  cases e:st.ownBlock with
  | none=>cases e2:u.ownBlock with
   | none=>exact Or.inl rfl
   | some k=>exact Or.inr (by simp)
  | some k=>exact Or.inr (hu k e)
 have old:∀ (u:Value),(∀ k,st.ownBlock=some k→u.ownBlock≠some k)→(∀ k,u.ownBlock=some k→B≤k∧k<w.heap.size)→∀ k,st'.ownBlock=some k→u.ownBlock≠some k:=fun u h1 h2 k hk e=>by
  rcases hs k hk with a|a
  ·exact h1 k a e
  ·have:=(h2 k e).2;omega
 exact⟨ho,h.ov.kept hg (key _ h.sv),h.len,fun i hi=>(h.row i hi).kept hg (key _ (h.sr i hi)),old _ h.sv h.ov.lt,fun i hi=>old _ (h.sr i hi) (h.row i hi).lt,h.vr,h.rr⟩
theorem OwnRR.more {w':World} {v':Value} (ho:OwnV R B 25 1 w' v' (xss.length+1) (vs ++ [nilS])) (hg:w.grownBy w' v.ownBlock) (hs:∀ k,v'.ownBlock=some k→v.ownBlock=some k∨w.heap.size≤k):OwnRR R B w' st v' S (vs ++ [nilS]) (xss ++ [[]]):=by
 have key:∀ (u:Value),(∀ k,v.ownBlock=some k→u.ownBlock≠some k)→u.ownBlock=none∨u.ownBlock≠v.ownBlock:=fun u hu=>by
  cases e:v.ownBlock with
  | none=>cases e2:u.ownBlock with
   | none=>exact Or.inl rfl
   | some k=>exact Or.inr (by simp)
  | some k=>exact Or.inr (hu k e)
 have old:∀ (u:Value),(∀ k,v.ownBlock=some k→u.ownBlock≠some k)→(∀ k,u.ownBlock=some k→B≤k∧k<w.heap.size)→∀ k,v'.ownBlock=some k→u.ownBlock≠some k:=fun u h1 h2 k hk e=>by
  rcases hs k hk with a|a
  ·exact h1 k a e
  ·have:=(h2 k e).2;omega
 have hsv:∀ k,v.ownBlock=some k→st.ownBlock≠some k:=fun k a b=>h.sv k b a
 have hnil:∀ k,nilS.ownBlock=some k→False:=fun k e=>by simp[nilS,Value.ownBlock] at e
 have hcase:∀ i,i<(xss ++ [[]]).length→(i<xss.length∧(vs ++ [nilS]).getD i nilS=vs.getD i nilS∧(xss ++ [[]]).getD i []=xss.getD i [])∨((vs ++ [nilS]).getD i nilS=nilS∧(xss ++ [[]]).getD i []=[]∧i=xss.length):=fun i hi=>by
  rw[getD_app,getD_app,h.len]
  by_cases e:i=xss.length
  ·exact Or.inr ⟨by rw[if_pos e],by rw[if_pos e],e⟩
  ·refine Or.inl ⟨?_,by rw[if_neg e],by rw[if_neg e]⟩
   simp at hi
   omega
 refine⟨h.ost.kept hg (key _ hsv),by rw[List.length_append];exact ho,by simp[h.len],fun i hi=>?_,fun k a b=>old _ hsv h.ost.lt k b a,fun i hi k a=>?_,fun i hi k a=>?_,fun i j hi hj hij k a=>?_⟩
 ·rcases hcase i hi with ⟨c,e1,e2⟩|⟨e1,e2,_⟩
  ·rw[e1,e2];exact (h.row i c).kept hg (key _ (h.vr i c))
  ·rw[e1,e2];exact OwnI.nil R B _ w'
 ·rcases hcase i hi with ⟨c,e1,e2⟩|⟨e1,e2,_⟩
  ·rw[e1];exact h.sr i c k a
  ·rw[e1];exact fun e=>hnil k e
 ·rcases hcase i hi with ⟨c,e1,e2⟩|⟨e1,e2,_⟩
  ·rw[e1];exact old _ (h.vr i c) (h.row i c).lt k a
  ·rw[e1];exact fun e=>hnil k e
 ·rcases hcase i hi with ⟨c,e1,e2⟩|⟨e1,e2,e3⟩
  ·rcases hcase j hj with ⟨c',e1',e2'⟩|⟨e1',e2',_⟩
   ·rw[e1] at a;rw[e1'];exact h.rr i j c c' hij k a
   ·rw[e1'];exact fun e=>hnil k e
  ·rw[e1] at a;exact absurd a (fun e=>hnil k e)
end
theorem OwnRR.push {R:Reg} {B:Nat} {w:World} {st:Value} {g n c:Nat} {S:List Nat} {vs:List Value} {xss:List (List Nat)} (h:OwnRR R B w st (.slice (some ⟨g,0,none⟩) n c) S vs xss) (hn:xss.length=n) {i:Nat} (hi:i<xss.length) {w':World} {u':Value} {x:Nat}
  (ho:OwnI R B 3 w' u' (toI (xss.getD i [] ++ [x]))) (hg:w.grownBy w' (vs.getD i nilS).ownBlock) (hs:∀ k,u'.ownBlock=some k→(vs.getD i nilS).ownBlock=some k∨w.heap.size≤k):
  OwnRR R B (w'.setCell ⟨g,i,none⟩ u') st (.slice (some ⟨g,0,none⟩) n c) S (vs.set i u') (xss.set i (xss.getD i [] ++ [x])):=by
 have hgb:(Value.slice (some ⟨g,0,none⟩) n c).ownBlock=some g:=rfl
 have hglt:=(h.ov.lt g hgb).2
 have key:∀ (u:Value),(∀ k,u.ownBlock=some k→(vs.getD i nilS).ownBlock≠some k)→u.ownBlock=none∨u.ownBlock≠(vs.getD i nilS).ownBlock:=fun u hu=>by
  cases e:u.ownBlock with
  | none=>exact Or.inl rfl
  | some k=>exact Or.inr fun e2=>hu k e e2.symm
 have new:∀ (u:Value),(∀ k,u.ownBlock=some k→(vs.getD i nilS).ownBlock≠some k)→(∀ k,u.ownBlock=some k→B≤k∧k<w.heap.size)→∀ k,u.ownBlock=some k→u'.ownBlock≠some k:=fun u h1 h2 k hk e=>by
  rcases hs k e with a|a
  ·exact h1 k hk a
  ·have:=(h2 k hk).2;omega
 have hst:st.ownBlock≠some g:=fun e=>h.sv g e hgb
 have hu'g:u'.ownBlock≠some g:=new _ (h.vr i hi) h.ov.lt g hgb
 have hil:i<vs.length:=by rw[h.len];exact hi
 have hcase:∀ j,(j=i∧(vs.set i u').getD j nilS=u'∧(xss.set i (xss.getD i [] ++ [x])).getD j []=xss.getD i [] ++ [x])∨(j≠i∧(vs.set i u').getD j nilS=vs.getD j nilS∧(xss.set i (xss.getD i [] ++ [x])).getD j []=xss.getD j []):=fun j=>by
  rw[getD_set hil,getD_set hi]
  by_cases e:j=i
  ·exact Or.inl ⟨e,by rw[if_pos e],by rw[if_pos e]⟩
  ·exact Or.inr ⟨e,by rw[if_neg e],by rw[if_neg e]⟩
 refine⟨(h.ost.kept hg (key _ (h.sr i hi))).setCell hst _,?_,by rw[List.length_set,List.length_set,h.len],fun j hj=>?_,h.sv,fun j hj k a=>?_,fun j hj k a=>?_,fun j l hj hl hjl k a=>?_⟩
 ·rw[List.length_set]
  have h1:=h.ov.kept hg (key _ (h.vr i hi))
  rw[hn] at h1 ⊢
  exact h1.put i u'
 ·rw[List.length_set] at hj
  rcases hcase j with ⟨e,e1,e2⟩|⟨e,e1,e2⟩
  ·rw[e1,e2];exact ho.setCell hu'g _
  ·rw[e1,e2];exact ((h.row j hj).kept hg (key _ (h.rr j i hj hi e))).setCell (fun k=>h.vr j hj g hgb k) _
 ·rw[List.length_set] at hj
  rcases hcase j with ⟨e,e1,e2⟩|⟨e,e1,e2⟩
  ·rw[e1];exact new _ (h.sr i hi) h.ost.lt k a
  ·rw[e1];exact h.sr j hj k a
 ·rw[List.length_set] at hj
  rcases hcase j with ⟨e,e1,e2⟩|⟨e,e1,e2⟩
  ·rw[e1];exact new _ (h.vr i hi) h.ov.lt k a
  ·rw[e1];exact h.vr j hj k a
 ·rw[List.length_set] at hj hl
  rcases hcase j with ⟨e,e1,e2⟩|⟨e,e1,e2⟩
  ·rcases hcase l with ⟨e',e1',e2'⟩|⟨e',e1',e2'⟩
   ·exact absurd (e.trans e'.symm) hjl
   ·rw[e1] at a;rw[e1']
    exact fun b=>new _ (h.rr l i hl hi e') (h.row l hl).lt k b a
  ·rcases hcase l with ⟨e',e1',e2'⟩|⟨e',e1',e2'⟩
   ·rw[e1] at a;rw[e1']
    exact new _ (h.rr j i hj hi e) (h.row j hj).lt k a
   ·rw[e1] at a;rw[e1']
    exact h.rr j l hj hl hjl k a
end
section
set_option linter.unusedVariables false
def topL (S:List Nat):Nat:=at' S (S.length-1)
def decP (L:List Int) (N:List Nat):Nat→List Nat × List (List Nat)
 | 0=>([0],[[]])
 | i+1=>
  let q:=decP L N i
  let X:=q.2.set (topL q.1) (q.2.getD (topL q.1) [] ++ [at' N i])
  if nth L i=0 then (q.1 ++ [X.length],X ++ [[]]) else if nth L i=1 then (q.1.take (q.1.length-1),X) else (q.1,X)
theorem decP_succ (L:List Int) (N:List Nat) (i:Nat):decP L N (i+1)=(let q:=decP L N i
  let X:=q.2.set (topL q.1) (q.2.getD (topL q.1) [] ++ [at' N i])
  if nth L i=0 then (q.1 ++ [X.length],X ++ [[]]) else if nth L i=1 then (q.1.take (q.1.length-1),X) else (q.1,X)):=rfl
theorem set_flat (d:Nat):∀ (X:List (List Nat)) (v:Nat),v<X.length→(X.set v (X.getD v [] ++ [d])).flatten.Perm (d :: X.flatten)
 | [],v,h=>by simp at h
 | x :: X,0,_=>by
  simp only[List.set_cons_zero,List.getD_cons_zero,List.flatten_cons,List.append_assoc]
  exact List.perm_middle
 | x :: X,v+1,h=>by
  simp only[List.set_cons_succ,List.getD_cons_succ,List.flatten_cons]
  have:=set_flat d X v (by simpa using h)
  exact (List.Perm.append_left x this).trans List.perm_middle
structure DecI (N:List Nat) (i h:Nat) (q:List Nat × List (List Nat)):Prop where
 len:q.1.length=1+h
 rows:q.2.length≤i+1
 st:∀ x,x∈q.1→x<q.2.length
 perm:q.2.flatten.Perm (N.take i)
theorem topL_mem {S:List Nat} (h:0<S.length):topL S∈S:=by
 unfold topL
 rw[at'_eq (by omega)]
 exact List.getElem_mem _
theorem decP_inv {p:Nat} {bs:List Nat} {N:List Nat} (hN:N.length=2*p):∀ i,i≤2*p→DecI N i (anyS p bs i).2.1 (decP (anyW p bs) N i)
 | 0,_=>⟨rfl,Nat.le_refl _,fun x hx=>by
   have:x=0:=by simpa [decP] using hx
   subst this;exact Nat.succ_pos _,by show List.Perm [] _;simp⟩
 | i+1,hi=>by
  have ih:=decP_inv (bs:=bs) hN i (by omega)
  have hst:=(anyK_step p bs i).2
  have hL:nth (anyW p bs) i=anyK p bs i:=anyW_nth (by omega)
  rw[decP_succ]
  dsimp only
  rw[hL]
  obtain⟨q,hq⟩:∃ q,decP (anyW p bs) N i=q:=⟨_,rfl⟩
  rw[hq] at ih ⊢
  obtain⟨i1,i2,i3,i4⟩:=ih
  have htop:topL q.1<q.2.length:=i3 _ (topL_mem (by omega))
  have hXl:(q.2.set (topL q.1) (q.2.getD (topL q.1) [] ++ [at' N i])).length=q.2.length:=List.length_set
  have hXp:(q.2.set (topL q.1) (q.2.getD (topL q.1) [] ++ [at' N i])).flatten.Perm (N.take (i+1)):=by
   refine (set_flat (at' N i) q.2 _ htop).trans ?_
   rw[List.take_succ_eq_append_getElem (by omega),at'_eq (by omega)]
   exact (List.Perm.cons _ i4).trans (List.perm_append_singleton _ _).symm
  obtain⟨X,hX⟩:∃ X,q.2.set (topL q.1) (q.2.getD (topL q.1) [] ++ [at' N i])=X:=⟨_,rfl⟩
  rw[hX] at hXl hXp ⊢
  rcases hst with ⟨k,e⟩|⟨k,e⟩|⟨k,h0,e⟩|⟨k,h0,e⟩
  ·rw[k,if_pos rfl,e]
   refine⟨by simp[i1];omega,by simp;omega,fun x hx=>?_,by simpa using hXp⟩
   rw[List.length_append,List.length_singleton]
   rcases List.mem_append.1 hx with hx|hx
   ·have:=i3 x hx;omega
   ·rw[List.mem_singleton.1 hx];omega
  ·rw[k,if_neg (by decide),if_neg (by decide),e]
   exact⟨i1,by show X.length≤_;omega,fun x hx=>by show x<X.length;rw[hXl];exact i3 x hx,hXp⟩
  ·rw[k,if_neg (by decide),if_pos rfl,e]
   refine⟨by show (q.1.take (q.1.length-1)).length=_;rw[List.length_take];omega,by show X.length≤_;omega,fun x hx=>?_,hXp⟩
   show x<X.length
   rw[hXl]
   exact i3 x (List.mem_of_mem_take hx)
  ·rw[k,if_neg (by decide),if_neg (by decide),e]
   exact⟨i1,by show X.length≤_;omega,fun x hx=>by show x<X.length;rw[hXl];exact i3 x hx,hXp⟩
theorem lay_perm {X:List (List Nat)} {N:List Nat} (hN:IsPerm N) (hp:X.flatten.Perm N):RowsOf X (layA X (List.replicate N.length 0))∧(layA X (List.replicate N.length 0)).length=N.length:=by
 have hl:(layA X (List.replicate N.length 0)).length=N.length:=by rw[layA_length,List.length_replicate]
 have hnd:X.flatten.Nodup:=hp.nodup_iff.2 hN.1
 have hmem:∀ y,y∈X.flatten↔y<N.length:=fun y=>by
  rw[hp.mem_iff]
  constructor
  ·exact hN.2 y
  ·intro hy
   obtain⟨e,hk⟩:=at_invL hN hy
   rw[←e,at'_eq hk]
   exact List.getElem_mem _
 obtain⟨h1,_⟩:=layA_at X (List.replicate N.length 0) hnd (fun x hx=>by rw[List.length_replicate];exact (hmem x).1 hx)
 exact⟨⟨hnd,fun y=>by rw[hl];exact hmem y,h1⟩,hl⟩
theorem decP_turn {p:Nat} {bs:List Nat} {N:List Nat} (hN:IsPerm N) (hl:N.length=2*p):
  IsPerm (layA (decP (anyW p bs) N (2*p)).2 (List.replicate (2*p) 0))∧(layA (decP (anyW p bs) N (2*p)).2 (List.replicate (2*p) 0)).length=2*p∧RowsOf (decP (anyW p bs) N (2*p)).2 (layA (decP (anyW p bs) N (2*p)).2 (List.replicate (2*p) 0)):=by
 have h:=(decP_inv (bs:=bs) hl (2*p) (Nat.le_refl _)).perm
 rw[List.take_of_length_le (by omega)] at h
 have h2:=lay_perm hN h
 rw[hl] at h2
 exact⟨h2.1.isPerm,h2.2,h2.1⟩
end
section
open Go.RowKit
set_option linter.unusedVariables false
theorem nodup_len {v:List Nat} (hn:v.Nodup) {N:Nat} (h:∀ x,x∈v→x<N):v.length≤N:=by
 by_cases hl:v.length≤N
 ·exact hl
 ·obtain⟨a,b,hab,hb,e⟩:=pigeon N (fun k=>at' v k) (fun k hk=>h _ (by rw[at'_eq (by omega)];exact List.getElem_mem _))
  simp only[at'_eq (show a<v.length by omega),at'_eq (show b<v.length by omega)] at e
  have:=nodup_inj hn (by omega) (by omega) e
  omega
theorem outL_length (f:Nat→List Nat) (xss:List (List Nat)):(outL f xss).length=xss.length:=by unfold outL;rw[List.length_map]
theorem RowsF.sm {xss:List (List Nat)} {D:Nat→Prop} {f:Nat→Nat} (h:RowsF xss D f) {N:Nat} (hD:∀ y,D y→y<N) (hN:N≤100000) (hl:xss.length≤100000):RowsSm xss:=by
 refine⟨hl,fun i hi=>?_⟩
 have hm:xss.getD i []∈xss:=by simp[List.getD,hi]
 have hlt:∀ x,x∈xss.getD i []→x<N:=fun x hx=>hD x ((h.mem x).1 (List.mem_flatten.2 ⟨_,hm,hx⟩))
 exact⟨Nat.le_trans (nodup_len (h.rowNd hm) hlt) hN,fun x hx=>by have:=hlt x hx;omega⟩
theorem RowsOf.sm {xss:List (List Nat)} {T:List Nat} (h:RowsOf xss T) (hN:T.length≤100000) (hl:xss.length≤100000):RowsSm xss:=
 RowsF.sm (xss:=xss) (D:=(· < T.length)) (f:=at' T) ⟨h.nd,h.mem,fun v hv=>h.next v hv⟩ (fun y hy=>hy) hN hl
theorem RowsOf.below {xss:List (List Nat)} {T:List Nat} (h:RowsOf xss T):∀ i,i<xss.length→∀ x,x∈xss.getD i []→x<T.length:=fun i hi x hx=>
 (h.mem x).1 (List.mem_flatten.2 ⟨xss.getD i [],by simp[List.getD,hi],hx⟩)
theorem lists_sm {s:List Nat} (hs:IsPerm s) (hn:s.length≤100000):RowsSm (listsL s s.length):=(lists_rows hs).sm hn (Nat.le_trans (listsL_len s _) hn)
theorem OwnI.lit1 {R:Reg} {W:World} {B:Nat} (hI:Inv R W) (hB:B≤W.heap.size) (y:Int):OwnI R B 3 (W.alloc (.cells #[.int .i64 y] 3)) (.slice (some ⟨W.heap.size,0,none⟩) 1 1) [y]:=by
 have h:=World.ownsRow_lit (base:=B) (e:=3) (size:=1) W #[.int .i64 y] 1 hB (by simp[maxLen]) rfl
 refine⟨by simpa using h,fun k hk=>?_⟩
 simp only[Value.ownBlock,Option.some.injEq] at hk
 rw[←hk]
 exact hI.none_of_ge (Nat.le_refl _)
theorem OwnI.lit2 {R:Reg} {W:World} {B:Nat} (hI:Inv R W) (hB:B≤W.heap.size) (x y:Int):OwnI R B 3 (W.alloc (.cells #[.int .i64 x,.int .i64 y] 3)) (.slice (some ⟨W.heap.size,0,none⟩) 2 2) [x,y]:=by
 have h:=World.ownsRow_lit (base:=B) (e:=3) (size:=1) W #[.int .i64 x,.int .i64 y] 2 hB (by simp[maxLen]) rfl
 refine⟨by simpa using h,fun k hk=>?_⟩
 simp only[Value.ownBlock,Option.some.injEq] at hk
 rw[←hk]
 exact hI.none_of_ge (Nat.le_refl _)
theorem rowOk_lit1 {R:Reg} {w:World} {B n:Nat} {v:Value} {vs:List Value} (hI:Inv R w) {y:Int} {x:Nat} (hy:y=(x:Int)) (hO:OwnV R B 25 1 w v n vs):RowOk R (w.alloc (.cells #[.int .i64 y] 3)) (fun k=>v.ownBlock=some k) (.slice (some ⟨w.heap.size,0,none⟩) 1 1) [x]:=by
 subst hy
 exact rowOk_new (N:=1) (F:=[x]) (OwnI.lit1 hI (Nat.le_refl _) (x:Int)) rfl hO
theorem rowOk_lit2 {R:Reg} {w:World} {B n:Nat} {v:Value} {vs:List Value} (hI:Inv R w) {x' y':Int} {x y:Nat} (hx:x'=(x:Int)) (hy:y'=(y:Int)) (hO:OwnV R B 25 1 w v n vs):RowOk R (w.alloc (.cells #[.int .i64 x',.int .i64 y'] 3)) (fun k=>v.ownBlock=some k) (.slice (some ⟨w.heap.size,0,none⟩) 2 2) [x,y]:=by
 subst hx hy
 exact rowOk_new (N:=2) (F:=[x,y]) (OwnI.lit2 hI (Nat.le_refl _) (x:Int) (y:Int)) rfl hO
theorem one_cell_next (w:World) (L:Obj) (u:Value):∀ j x,[u][j]?=some x→((w.alloc L).alloc (.cells #[u] 25)).cell? ((⟨w.heap.size+1,0,none⟩:Addr).add j)=some x:=by
 have h:=one_cell (w.alloc L) u
 rw[World.size_alloc] at h
 exact h
theorem RowsAt.mono {R:Reg} {B B':Nat} {w:World} {v:Value} {xss:List (List Nat)} (h:RowsAt R B w v xss) (hB:B'≤B):RowsAt R B' w v xss:=by
 obtain⟨a,c,vs,e,h1,h2⟩:=h
 exact⟨a,c,vs,e,h1.mono hB,h2⟩
theorem starLs_len (s O:List Nat):∀ i,(starLs s O i).length=(listsL s s.length).length
 | 0=>rfl
 | i+1=>by unfold starLs;rw[outL_length];exact starLs_len s O i
theorem RowOk.nil (R:Reg) (w:World) (X:Nat→Prop):RowOk R w X (.slice none 0 0) []:=
 ⟨none,0,rfl,(OwnI.nil R w.heap.size 3 w).free,fun k hk=>by simp[Value.ownBlock] at hk⟩
section
variable {a : Act} {ops : Array Oper} {Q : Exit → Act → World → Prop} {o : Oper} {rest : List Oper}
theorem wpList_app_none {w:World} (hgd:o.guard=none) (s x:Operand)
  (ho:o.op=.call { callee:=.builtin .append,args:=#[s,x],argTypes:=#[25,25] })
  {a1:Option Addr} {n c:Nat} {a2:Option Addr} {c2:Nat} (hs:a.eval s=.slice a1 n c) (hx:a.eval x=.slice a2 0 c2) (hc:n≤c)
  (h:wpList Tryz.prog ops Q rest (a.put o.dst (.slice a1 n c)) w):wpList Tryz.prog ops Q (o :: rest) a w:=by
 have hr:=run_app_nil o.type w a1 n c a2 c2 hc
 refine wpList_plain hgd fun K hK=>?_
 unfold Oper.wp execOp
 simp only[ho,resolve,invoke,builtin,Sem.run_bind,Sem.run_pure,Result.andThen_ok,List.map_toArray,List.map_cons,List.map_nil,hs,hx,hr]
 exact hK _ _ h
end
def RetDo (R:Reg) (w:World) (L:List Nat) (root lone:Int) (z:Ending) (w':World):Prop:=
 ∃ a c,z=.returned (.tuple #[refV (.slice a L.length c) root lone,.int .i64 0])∧Ev R w R w'∧OwnI R w.heap.size 3 w' (.slice a L.length c) (toI L)
end
end Go.Proofs.YtklkgicjfnbndaaGreat
