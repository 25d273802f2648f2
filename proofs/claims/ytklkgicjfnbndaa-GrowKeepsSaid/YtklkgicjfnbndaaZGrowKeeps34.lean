/- What the document does to lists is what the program does to the map: a leaf, a chord, a split, a star, a flip. -/
import Derived.Test.YtklkgicjfnbndaaZGrowKeeps33
import Derived.Test.YtklkgicjfnbndaaZGrowKeeps29
import Derived.Test.YtklkgicjfnbndaaZGrowKeeps23
namespace Go.Proofs.Ytklkgicjfnbndaa
section
set_option linter.unusedVariables false
theorem insF_congr {f g:Nat→Nat} {t d x:Nat} (h1:f t=g t) (h2:x≠t→x≠d→f x=g x):insF f t d x=insF g t d x:=by
 unfold insF
 by_cases e:x=t
 ·rw[if_pos e,if_pos e]
 ·rw[if_neg e,if_neg e]
  by_cases e2:x=d
  ·rw[if_pos e2,if_pos e2,h1]
  ·rw[if_neg e2,if_neg e2,h2 e e2]
theorem behind_at {L:List Nat} {d t x:Nat} (hx:x<L.length):at' (behindL L d t) x=insF (at' L) t d x:=by
 unfold behindL insF
 rw[at_set (by rw[List.length_set];exact hx),at_set hx]
 by_cases h:t=x
 ·rw[if_pos h,if_pos h.symm]
 ·rw[if_neg h,if_neg (show ¬ x=t from fun e=>h e.symm)]
  by_cases h2:d=x
  ·rw[if_pos h2,if_pos h2.symm]
  ·rw[if_neg h2,if_neg (show ¬ x=d from fun e=>h2 e.symm)]
theorem at_new2 {s:List Nat} {x:Nat} (h:x<s.length+2):at' (s ++ [s.length,s.length+1]) x=if x<s.length then at' s x else x:=by
 rw[at'_eq (by simp;omega)]
 by_cases h1:x<s.length
 ·rw[List.getElem_append_left h1,if_pos h1,at'_eq h1]
 ·rw[List.getElem_append_right (by omega),if_neg h1]
  obtain rfl|rfl:x=s.length∨x=s.length+1:=by omega
  ·simp
  ·simp
theorem leaf_at {s:List Nat} {d y:Nat} (hd:d<s.length) (hy:y<s.length+2):at' (leafL s d) y=if y=s.length+1 then s.length+1 else insF (at' s) d s.length y:=by
 unfold leafL
 rw[behind_at (by simp;omega)]
 unfold insF
 have hD:=at_new2 (s:=s) (x:=d) (by omega)
 rw[if_pos hd] at hD
 rw[hD,at_new2 hy]
 by_cases h1:y=s.length+1
 ·rw[if_pos h1,if_neg (by omega),if_neg (by omega),if_neg (by omega),h1]
 ·rw[if_neg h1]
  by_cases h2:y=d
  ·rw[if_pos h2,if_pos h2]
  ·rw[if_neg h2,if_neg h2]
   by_cases h3:y=s.length
   ·rw[if_pos h3,if_pos h3]
   ·rw[if_neg h3,if_neg h3,if_pos (by omega)]
theorem cy_one {f:Nat→Nat} {x:Nat} (h:f x=x):Cy f [x]:=Cy.ch.2 h
theorem leaf_rows {s:List Nat} (hs:IsPerm s) {d:Nat} (hd:d<s.length):RowsOf (outL (aftF d s.length) (listsL s s.length) ++ [[s.length+1]]) (leafL s d):=by
 have h1:=((lists_rowsF hs).after hd (Nat.lt_irrefl s.length)).congr (g:=at' (leafL s d)) (fun y=>Iff.rfl) fun y hy=>by rw[leaf_at hd (by omega),if_neg (by omega)]
 refine (h1.more (v:=[s.length+1]) (by simp) (fun x hx=>?_) (cy_one ?_) fun x _=>rfl).rows (fun y=>?_) fun y _=>rfl
 ·rw[List.mem_singleton] at hx;omega
 ·rw[leaf_at hd (by omega),if_pos rfl]
 ·rw[List.mem_singleton,leafL_length];omega
theorem chord_rows {s:List Nat} (hs:IsPerm s) {d e:Nat} (hd:d<s.length) (he:e<s.length):RowsOf (outL (aftF (if d=e then s.length else e) (s.length+1)) (outL (aftF d s.length) (listsL s s.length))) (chordL s d e):=by
 have h1:=(lists_rowsF hs).after hd (Nat.lt_irrefl s.length)
 obtain⟨t,ht⟩:∃ t,(if d=e then s.length else e)=t:=⟨_,rfl⟩
 have htl:t≤s.length:=by rw[←ht];split <;> omega
 unfold chordL
 rw[ht]
 have h2:=h1.after (t:=t) (d:=s.length+1) (by omega) (by omega)
 refine h2.rows (fun y=>by rw[behindL_length,leafL_length];omega) fun y hy=>?_
 rw[behindL_length,leafL_length] at hy
 rw[behind_at (by rw[leafL_length];exact hy)]
 have e1:∀ x,x≤s.length→at' (leafL s d) x=insF (at' s) d s.length x:=fun x hx=>by rw[leaf_at hd (by omega),if_neg (by omega)]
 unfold insF at e1 ⊢
 by_cases h3:y=t
 ·rw[if_pos h3,if_pos h3]
 ·rw[if_neg h3,if_neg h3]
  by_cases h4:y=s.length+1
  ·rw[if_pos h4,if_pos h4,e1 t htl]
  ·rw[if_neg h4,if_neg h4,e1 y (by omega)]
theorem splitL_length (s:List Nat) (d:Nat):(splitL s d).length=s.length+2:=by
 unfold splitL;dsimp only;split <;> simp
theorem cy_two {f:Nat→Nat} {x y:Nat} (h:f x=y) (h2:f y=x):Cy f [x,y]:=Cy.ch.2 ⟨h,h2⟩
theorem split_at {s:List Nat} (hs:IsPerm s) {d m y:Nat} (hm:d ^^^ 1=m) (hml:m<s.length) (hy:y<s.length+2):
  at' (splitL s d) y=if y=m then s.length else if y=s.length then m else if y=s.length+1 then (if at' s m=m then s.length+1 else at' s m) else if at' s y=m then s.length+1 else at' s y:=by
 unfold splitL
 dsimp only
 rw[hm]
 obtain⟨hk1,hk2⟩:=at_invL hs hml
 obtain⟨k,hk⟩:∃ k,at' (invL s) m=k:=⟨_,rfl⟩
 rw[hk] at hk1 hk2 ⊢
 have hkm:k=m↔at' s m=m:=⟨fun h=>by rw[h] at hk1;exact hk1,fun h=>hs.inj hk2 hml (by rw[hk1,h])⟩
 have hL:(s ++ [s.length,s.length+1]).length=s.length+2:=by simp
 have hM:=at_new2 (s:=s) (x:=m) (by omega)
 rw[if_pos hml] at hM
 have key:∀ L:List Nat,L.length=s.length+2→at' ((L.set s.length m).set m s.length) y=if y=m then s.length else if y=s.length then m else at' L y:=fun L hl=>by
  rw[at_set (by rw[List.length_set,hl];exact hy),at_set (by rw[hl];exact hy)]
  by_cases h:m=y
  ·rw[if_pos h,if_pos h.symm]
  ·rw[if_neg h,if_neg (show ¬ y=m from fun e=>h e.symm)]
   by_cases h2:s.length=y
   ·rw[if_pos h2,if_pos h2.symm]
   ·rw[if_neg h2,if_neg (show ¬ y=s.length from fun e=>h2 e.symm)]
 rw[key _ (by split <;> simp)]
 by_cases h1:y=m
 ·rw[if_pos h1,if_pos h1]
 rw[if_neg h1,if_neg h1]
 by_cases h2:y=s.length
 ·rw[if_pos h2,if_pos h2]
 rw[if_neg h2,if_neg h2]
 by_cases hkk:k=m
 ·rw[if_pos hkk,at_set (by rw[hL];exact hy),at_new2 hy]
  by_cases h3:y=s.length+1
  ·rw[if_pos h3.symm,if_pos h3,if_pos (hkm.1 hkk)]
  ·rw[if_neg (fun e=>h3 e.symm),if_neg h3,if_pos (by omega),if_neg]
   intro e
   exact h1 ((hs.inj (by omega) hk2 (e.trans hk1.symm)).trans hkk)
 ·rw[if_neg hkk,at_set (by rw[List.length_set,hL];exact hy),at_set (by rw[hL];exact hy),at_new2 hy,hM]
  by_cases h3:y=s.length+1
  ·rw[if_pos h3.symm,if_pos h3,if_neg (fun e=>hkk (hkm.2 e))]
  ·rw[if_neg (fun e=>h3 e.symm),if_neg h3]
   by_cases h4:k=y
   ·rw[if_pos h4,if_pos (show at' s y=m by rw[←h4];exact hk1)]
   ·rw[if_neg h4,if_pos (show y<s.length by omega),if_neg (show ¬ at' s y=m from fun e=>h4 (hs.inj (by omega) hk2 (e.trans hk1.symm)).symm)]
theorem split_rows {s:List Nat} (hs:IsPerm s) {d m:Nat} (hm:d ^^^ 1=m) (hml:m<s.length):RowsOf (outL (witF m) (outL (aftF m (s.length+1)) (listsL s s.length)) ++ [[s.length,m]]) (splitL s d):=by
 have h1:=((lists_rowsF hs).after (t:=m) (d:=s.length+1) hml (by omega)).without m
 have h2:=h1.congr (g:=at' (splitL s d)) (fun y=>Iff.rfl) fun y hy=>by
  have hne:y≠m:=hy.2
  have hy2:y<s.length∨y=s.length+1:=hy.1
  rw[split_at hs hm hml (by omega),if_neg hne,if_neg (by omega)]
  have hvm:insF (at' s) m (s.length+1) m=s.length+1:=by unfold insF;rw[if_pos rfl]
  unfold delF
  rw[hvm]
  unfold insF
  rw[if_neg hne]
  by_cases h3:y=s.length+1
  ·rw[if_pos h3,if_pos h3]
  ·rw[if_neg h3,if_neg h3]
 refine (h2.more (v:=[s.length,m]) ?_ (fun x hx=>?_) (cy_two ?_ ?_) fun x _=>rfl).rows (fun y=>?_) fun y _=>rfl
 ·simp;omega
 ·simp at hx;omega
 ·rw[split_at hs hm hml (by omega),if_neg (by omega),if_pos rfl]
 ·rw[split_at hs hm hml (by omega),if_pos rfl]
 ·rw[splitL_length]
  simp
  omega
def starLs (s O:List Nat):Nat→List (List Nat)
 | 0=>listsL s s.length
 | i+1=>outL (aftF (at' (invL s) (at' O i)) (s.length+2*i)) (starLs s O i)
def hubL (n:Nat):Nat→List Nat
 | 0=>[]
 | i+1=>(n+2*i+1) :: hubL n i
theorem hubL_length (n:Nat):∀ i,(hubL n i).length=i
 | 0=>rfl
 | i+1=>by unfold hubL;rw[List.length_cons,hubL_length n i]
theorem hubL_at (n:Nat):∀ {i j:Nat},j<i→at' (hubL n i) j=n+2*(i-1-j)+1
 | i+1,0,_=>by show n+2*i+1=_;simp
 | i+1,j+1,h=>by
  show at' (hubL n i) j=_
  rw[hubL_at n (by omega),show i+1-1-(j+1)=i-1-j by omega]
theorem hubL_mem (n:Nat):∀ {i x:Nat},x∈hubL n i↔∃ j,j<i∧x=n+2*j+1
 | 0,x=>⟨fun h=>(by cases h),fun ⟨j,h,_⟩=>(by omega)⟩
 | i+1,x=>by
  unfold hubL
  rw[List.mem_cons,hubL_mem n]
  constructor
  ·rintro (h|⟨j,h1,h2⟩)
   ·exact⟨i,by omega,h⟩
   ·exact⟨j,by omega,h2⟩
  ·rintro⟨j,h1,h2⟩
   by_cases h:j=i
   ·exact Or.inl (h ▸ h2)
   ·exact Or.inr ⟨j,by omega,h2⟩
theorem hubL_nodup (n:Nat):∀ i,(hubL n i).Nodup
 | 0=>List.nodup_nil
 | i+1=>by
  unfold hubL
  rw[List.nodup_cons,hubL_mem]
  exact⟨fun ⟨j,h1,h2⟩=>by omega,hubL_nodup n i⟩
theorem starLs_rows {s O:List Nat} (hs:IsPerm s) (hO:O.Nodup) (hlt:∀ x,x∈O→x<s.length):∀ i,i≤O.length→RowsF (starLs s O i) (fun y=>y<s.length∨∃ j,j<i∧y=s.length+2*j) (stF s O i)
 | 0,_=>(lists_rowsF hs).congr (fun y=>⟨Or.inl,fun h=>h.elim id fun ⟨j,h,_⟩=>by omega⟩) fun y hy=>by
  rw[stF_old hy,if_neg (by simp)]
 | i+1,hi=>by
  have ih:=starLs_rows hs hO hlt i (by omega)
  have hil:i<O.length:=by omega
  have hx:=hlt (at' O i) (by rw[at'_eq hil];exact List.getElem_mem hil)
  obtain⟨hb1,hb2⟩:=at_invL hs hx
  obtain⟨t,ht⟩:∃ t,at' (invL s) (at' O i)=t:=⟨_,rfl⟩
  rw[ht] at hb1 hb2
  have h1:=ih.after (t:=t) (d:=s.length+2*i) (Or.inl hb2) (fun h=>by rcases h with h|⟨j,h1,h2⟩ <;> omega)
  have e:starLs s O (i+1)=outL (aftF t (s.length+2*i)) (starLs s O i):=by rw[←ht];rfl
  rw[e]
  refine h1.congr (fun y=>?_) fun y hy=>?_
  ·constructor
   ·rintro ((h|⟨j,h1,h2⟩)|h)
    ·exact Or.inl h
    ·exact Or.inr ⟨j,by omega,h2⟩
    ·exact Or.inr ⟨i,by omega,h⟩
   ·rintro (h|⟨j,h1,h2⟩)
    ·exact Or.inl (Or.inl h)
    ·by_cases h3:j=i
     ·exact Or.inr (h3 ▸ h2)
     ·exact Or.inl (Or.inr ⟨j,by omega,h2⟩)
  ·have htv:stF s O i t=at' O i:=by rw[stF_old hb2,hb1,if_neg (not_mem_take hO hil)]
   unfold insF
   rw[htv]
   by_cases h2:y=t
   ·rw[if_pos h2,h2,stF_old hb2,hb1,if_pos ((mem_take_succ hil).2 (Or.inr rfl)),idx_at hO hil]
   ·rw[if_neg h2]
    by_cases h3:y=s.length+2*i
    ·rw[if_pos h3,stF_even (by omega) (by omega),h3,show (s.length+2*i-s.length) / 2=i by omega]
    ·rw[if_neg h3]
     by_cases h4:y<s.length
     ·rw[stF_old h4,stF_old h4]
      by_cases h5:at' s y∈O.take i
      ·rw[if_pos h5,if_pos ((mem_take_succ hil).2 (Or.inl h5))]
      ·rw[if_neg h5,if_neg]
       intro h6
       rcases (mem_take_succ hil).1 h6 with h7|h7
       ·exact h5 h7
       ·exact h2 (hs.inj h4 hb2 (h7.trans hb1.symm))
     ·have h6:(y-s.length) % 2=0:=by
       rcases hy with (h|⟨j,h1,h2⟩)|h <;> omega
      rw[stF_even h4 h6,stF_even h4 h6]
theorem star_rows {s O:List Nat} (hs:IsPerm s) (hO:O.Nodup) (hlt:∀ x,x∈O→x<s.length) (hm:0<O.length):RowsOf (starLs s O O.length ++ [hubL s.length O.length]) (starC s O):=by
 have h1:=(starLs_rows hs hO hlt O.length (Nat.le_refl _)).congr (g:=at' (starC s O)) (fun y=>Iff.rfl) fun y hy=>by
  have hyl:y<s.length+2*O.length:=by rcases hy with h|⟨j,h1,h2⟩ <;> omega
  rw[starC_at hyl]
  unfold starF
  by_cases h4:y<s.length
  ·rw[stF_old h4,if_pos h4,List.take_length]
  ·have h6:(y-s.length) % 2=0:=by
    rcases hy with h|⟨j,h1,h2⟩ <;> omega
   rw[stF_even h4 h6,if_neg h4,if_pos h6]
 refine (h1.more (hubL_nodup _ _) (fun x hx=>?_) (fun j hj=>?_) fun x _=>rfl).rows (fun y=>?_) fun y _=>rfl
 ·obtain⟨j,h2,h3⟩:=(hubL_mem _).1 hx
  rintro (h|⟨k,h4,h5⟩) <;> omega
 ·rw[hubL_length] at hj ⊢
  rw[hubL_at _ hj,starC_at (by omega)]
  unfold starF
  rw[if_neg (by omega),if_neg (by omega),show (s.length+2*(O.length-1-j)+1-s.length) / 2=O.length-1-j by omega]
  unfold nextI
  by_cases h:j+1<O.length
  ·rw[if_pos h,hubL_at _ h,show O.length-1-j+O.length-1=(O.length-1-(j+1))+O.length by omega,Nat.add_mod_right,Nat.mod_eq_of_lt (by omega)]
  ·rw[if_neg h,hubL_at _ hm,show O.length-1-j=0 by omega,Nat.zero_add,Nat.mod_eq_of_lt (by omega)]
   rfl
 ·rw[starC_length,hubL_mem]
  constructor
  ·rintro ((h|⟨j,h1,h2⟩)|⟨j,h1,h2⟩) <;> omega
  ·intro h
   by_cases h1:y<s.length
   ·exact Or.inl (Or.inl h1)
   ·by_cases h2:(y-s.length) % 2=0
    ·exact Or.inl (Or.inr ⟨(y-s.length) / 2,by omega,by omega⟩)
    ·exact Or.inr ⟨(y-s.length) / 2,by omega,by omega⟩
theorem flipL_length (s:List Nat) (d:Nat):(flipL s d).length=s.length:=by
 unfold flipL;dsimp only
 rw[behindL_length,List.length_set,behindL_length];simp
theorem flip_rows {s:List Nat} (hs:IsPerm s) {d m a b:Nat} (hm:d ^^^ 1=m) (hd:d<s.length) (hml:m<s.length)
  (ha:at' (invL s) (at' (phiL s) (at' (phiL s) d))=a) (hb:at' (invL s) (at' (phiL s) (at' (phiL s) m))=b) (hal:a<s.length) (hbl:b<s.length)
  (h1:at' s d≠d) (h2:at' s m≠m) (h3:at' s d≠m) (h4:at' s m≠d) (ha1:a≠d) (ha2:a≠m) (hb1:b≠d) (hb2:b≠m):
  RowsOf (outL (aftF b m) (outL (aftF a d) (outL (witF m) (outL (witF d) (listsL s s.length))))) (flipL s d):=by
 have hdm:d≠m:=fun e=>by rw[←hm,xor_one] at e;split at e <;> omega
 have r1:=((((lists_rowsF hs).without d).without m).after (t:=a) (d:=d) ⟨⟨hal,ha1⟩,ha2⟩ (fun h=>h.1.2 rfl)).after (t:=b) (d:=m) (Or.inl ⟨⟨hbl,hb1⟩,hb2⟩) (fun h=>h.elim (fun h=>h.2 rfl) fun e=>hdm e.symm)
 refine r1.rows (fun y=>?_) fun y hy=>?_
 ·rw[flipL_length]
  constructor
  ·rintro ((h|h)|h)
   ·exact h.1.1
   ·omega
   ·omega
  ·intro h
   by_cases e1:y=m
   ·exact Or.inr e1
   ·by_cases e2:y=d
    ·exact Or.inl (Or.inr e2)
    ·exact Or.inl (Or.inl ⟨⟨h,e2⟩,e1⟩)
 rw[flipL_length] at hy
 obtain⟨hd1,hd2⟩:=at_invL hs hd
 obtain⟨hm1,hm2⟩:=at_invL hs hml
 unfold flipL
 dsimp only
 rw[hm,ha,hb]
 obtain⟨p,hp⟩:∃ p,at' (invL s) d=p:=⟨_,rfl⟩
 obtain⟨q,hq⟩:∃ q,at' (invL s) m=q:=⟨_,rfl⟩
 rw[hp] at hd1 hd2
 rw[hq] at hm1 hm2
 rw[hp,hq]
 obtain⟨L1,hL1⟩:∃ L,(s.set p (at' s d)).set q (at' s m)=L:=⟨_,rfl⟩
 have hl1:L1.length=s.length:=by rw[←hL1];simp
 rw[hL1]
 have hpq:p≠q:=fun e=>hdm (by rw[←hd1,e,hm1])
 have hpd:p≠d:=fun e=>h1 (by rw[←e,hd1,e])
 have hqm:q≠m:=fun e=>h2 (by rw[←e,hm1,e])
 have hpm:p≠m:=fun e=>h4 (by rw[←e,hd1])
 have hqd:q≠d:=fun e=>h3 (by rw[←e,hm1])
 have v1:∀ x,x<s.length→at' L1 x=delF (delF (at' s) d) m x:=fun x hx=>by
  rw[←hL1,at_set (by rw[List.length_set];exact hx),at_set hx]
  have gm:delF (at' s) d m=at' s m:=by unfold delF;rw[if_neg h4]
  unfold delF at gm ⊢
  rw[gm]
  by_cases e1:q=x
  ·have hv:at' s x=m:=by rw[←e1];exact hm1
   rw[if_pos e1,hv,if_neg (show ¬ m=d from fun e=>hdm e.symm),if_pos rfl]
  ·rw[if_neg e1]
   by_cases e2:p=x
   ·have hv:at' s x=d:=by rw[←e2];exact hd1
    rw[if_pos e2,hv,if_pos rfl,if_neg h3]
   ·rw[if_neg e2,if_neg (show ¬ at' s x=d from fun e=>e2 (hs.inj hd2 hx (hd1.trans e.symm))),if_neg (show ¬ at' s x=m from fun e=>e1 (hs.inj hm2 hx (hm1.trans e.symm)))]
 rw[behind_at (by rw[List.length_set,behindL_length,List.length_set,hl1];exact hy)]
 have v2:∀ x,x<s.length→x≠m→at' ((behindL (L1.set d d) d a).set m m) x=insF (delF (delF (at' s) d) m) a d x:=fun x hx hxm=>by
  rw[at_set (by rw[behindL_length,List.length_set,hl1];exact hx),if_neg (fun e=>hxm e.symm),behind_at (by rw[List.length_set,hl1];exact hx)]
  refine insF_congr ?_ fun _ e2=>?_
  ·rw[at_set (by rw[hl1];exact hal),if_neg (show ¬ d=a from fun e=>ha1 e.symm),v1 a hal]
  ·rw[at_set (by rw[hl1];exact hx),if_neg (show ¬ d=x from fun e=>e2 e.symm),v1 x hx]
 have ub:∀ (F:Nat→Nat) (t u x:Nat),insF F t u x=if x=t then u else if x=u then F t else F x:=fun _ _ _ _=>rfl
 rw[ub _ b m y,ub _ b m y,v2 b hbl hb2]
 by_cases e1:y=b
 ·rw[if_pos e1,if_pos e1]
 ·rw[if_neg e1,if_neg e1]
  by_cases e2:y=m
  ·rw[if_pos e2,if_pos e2]
  ·rw[if_neg e2,if_neg e2,v2 y hy e2]
end
section
set_option linter.unusedVariables false
def SameRow (xss:List (List Nat)) (x y:Nat):Prop:=∃ v,v∈xss∧x∈v∧y∈v
theorem RowsF.perm {xss yss:List (List Nat)} {D:Nat→Prop} {f:Nat→Nat} (h:RowsF xss D f) (p:xss.Perm yss):RowsF yss D f:=
 ⟨p.flatten.nodup_iff.1 h.nd,fun y=>by rw[←p.flatten.mem_iff];exact h.mem y,fun v hv=>h.next v (p.mem_iff.2 hv)⟩
theorem RowsF.tail {xss:List (List Nat)} {v:List Nat} {D:Nat→Prop} {f:Nat→Nat} (h:RowsF (v :: xss) D f):RowsF xss (fun y=>D y∧y∉v) f:=by
 have hn:=h.nd
 rw[List.flatten_cons,List.nodup_append] at hn
 refine⟨hn.2.1,fun y=>?_,fun u hu=>h.next u (List.mem_cons_of_mem _ hu)⟩
 rw[←h.mem y,List.flatten_cons,List.mem_append]
 exact⟨fun hy=>⟨Or.inr hy,fun hv=>hn.2.2 y hv y hy rfl⟩,fun hy=>hy.1.resolve_left hy.2⟩
theorem RowsF.uni {xss:List (List Nat)} {D:Nat→Prop} {f:Nat→Nat} (h:RowsF xss D f) {u v:List Nat} {x:Nat} (hu:u∈xss) (hv:v∈xss) (hxu:x∈u) (hxv:x∈v):u=v:=by
 induction xss generalizing D with
 | nil=>cases hu
 | cons w xss ih=>
  have ht:=h.tail
  rcases List.mem_cons.1 hu with rfl|hu'
  ·rcases List.mem_cons.1 hv with rfl|hv'
   ·rfl
   ·exact absurd hxu ((ht.mem x).1 (List.mem_flatten.2 ⟨v,hv',hxv⟩)).2
  ·rcases List.mem_cons.1 hv with rfl|hv'
   ·exact absurd hxv ((ht.mem x).1 (List.mem_flatten.2 ⟨u,hu',hxu⟩)).2
   ·exact ih ht hu' hv'
theorem RowsF.f_mem {xss:List (List Nat)} {D:Nat→Prop} {f:Nat→Nat} (h:RowsF xss D f) {v:List Nat} (hv:v∈xss) {x:Nat} (hx:x∈v):f x∈v:=by
 obtain⟨j,hj,rfl⟩:=List.getElem_of_mem hx
 have hn:=h.next v hv j hj
 rw[at'_eq hj] at hn
 rw[hn,at'_eq (by unfold nextI;split <;> omega)]
 exact List.getElem_mem _
theorem RowsF.row_it {xss:List (List Nat)} {D:Nat→Prop} {f:Nat→Nat} (h:RowsF xss D f) {v:List Nat} (hv:v∈xss):∀ j,j<v.length→itf f j (at' v 0)=at' v j
 | 0,_=>rfl
 | j+1,hj=>by
  rw[itf_succ,h.row_it hv j (by omega),h.next v hv j (by omega)]
  unfold nextI
  rw[if_pos hj]
theorem rows_tally {xss:List (List Nat)}:∀ {D:Nat→Prop} {f:Nat→Nat} {n:Nat},RowsF xss D f→(∀ v,v∈xss→v≠[])→(∀ y,D y→y<n)→tally (fun x=>D x∧Least (SameRow xss) x) n=xss.length:=by
 induction xss with
 | nil=>
  intro D f n h _ _
  exact tally_none fun k _ hk=>by
   have:=(h.mem k).2 hk.1
   cases this
 | cons v xss ih=>
  intro D f n h hne hD
  have ht:=h.tail
  have hi:=ih ht (fun u hu=>hne u (List.mem_cons_of_mem _ hu)) (fun y hy=>hD y hy.1)
  obtain⟨x0,hx0⟩:∃ x,x∈v:=List.exists_mem_of_ne_nil v (hne v (List.mem_cons_self ..))
  obtain⟨a,_,ha,hl⟩:=least_nat (p:=fun x=>x∈v) x0 hx0
  have hDv:∀ x,x∈v→D x:=fun x hx=>(h.mem x).1 (List.mem_flatten.2 ⟨v,List.mem_cons_self ..,hx⟩)
  have hself:∀ x,D x→∃ u,u∈v :: xss∧x∈u:=fun x hx=>by
   obtain⟨u,hu,hxu⟩:=List.mem_flatten.1 ((h.mem x).2 hx)
   exact⟨u,hu,hxu⟩
  rw[tally_but (a:=a) (hD a (hDv a ha)) ⟨hDv a ha,fun y hy hr=>by
   obtain⟨u,hu,hyu,hau⟩:=hr
   have:=h.uni hu (List.mem_cons_self ..) hau ha
   subst this
   exact hl y hy hyu⟩,List.length_cons,←hi]
  refine congrArg (·+1) (tally_congr fun x hx=>?_)
  constructor
  ·rintro⟨⟨h1,h2⟩,h3⟩
   have hxv:x∉v:=fun hm=>by
    rcases Nat.lt_trichotomy a x with e|e|e
    ·exact h2 a e ⟨v,List.mem_cons_self ..,ha,hm⟩
    ·exact h3 e.symm
    ·exact hl x e hm
   exact⟨⟨h1,hxv⟩,fun y hy ⟨u,hu,h4,h5⟩=>h2 y hy ⟨u,List.mem_cons_of_mem _ hu,h4,h5⟩⟩
  ·rintro⟨⟨h1,h2⟩,h3⟩
   refine⟨⟨h1,fun y hy ⟨u,hu,h4,h5⟩=>?_⟩,fun e=>h2 (e ▸ ha)⟩
   rcases List.mem_cons.1 hu with rfl|hu
   ·exact h2 h5
   ·exact h3 y hy ⟨u,hu,h4,h5⟩
theorem RowsOf.rowsF {xss:List (List Nat)} {T:List Nat} (h:RowsOf xss T):RowsF xss (· < T.length) (at' T):=⟨h.nd,h.mem,fun v hv=>h.next v hv⟩
theorem RowsOf.cyc {xss:List (List Nat)} {T:List Nat} (h:RowsOf xss T) (hT:IsPerm T) {x y:Nat} (hx:x<T.length) (hy:y<T.length):Go.Proofs.Ytklkgicjfnbndaa.cyc T.length (at' T) x y↔SameRow xss x y:=by
 have hf:=h.rowsF
 constructor
 ·rintro⟨_,_,j,rfl⟩
  obtain⟨v,hv,hxv⟩:=List.mem_flatten.1 ((h.mem x).2 hx)
  have key:∀ j,itf (at' T) j x∈v:=fun j=>by
   induction j with
   | zero=>exact hxv
   | succ j ih=>rw[itf_succ];exact hf.f_mem hv ih
  exact⟨v,hv,hxv,key j⟩
 ·rintro⟨v,hv,hxv,hyv⟩
  have hp:=hT.pm.per
  have key:∀ z,z∈v→Go.Proofs.Ytklkgicjfnbndaa.cyc T.length (at' T) (at' v 0) z:=fun z hz=>by
   obtain⟨j,hj,rfl⟩:=List.getElem_of_mem hz
   have h0:at' v 0<T.length:=(h.mem _).1 (List.mem_flatten.2 ⟨v,hv,by rw[at'_eq (by omega)];exact List.getElem_mem _⟩)
   exact⟨h0,(h.mem _).1 (List.mem_flatten.2 ⟨v,hv,hz⟩),j,by rw[hf.row_it hv j hj,at'_eq hj]⟩
  exact hp.trans (hp.symm (key x hxv)) (key y hyv)
theorem RowsOf.count {xss:List (List Nat)} {T:List Nat} (h:RowsOf xss T) (hT:IsPerm T) (hne:∀ v,v∈xss→v≠[]):(sizesL T).length=xss.length:=by
 rw[sizesL_tally hT,←rows_tally h.rowsF hne (fun y hy=>hy)]
 refine tally_congr fun x hx=>⟨fun hl=>⟨hx,fun y hy hr=>hl y hy ((h.cyc hT (by omega) hx).2 hr)⟩,fun hl y hy hr=>hl.2 y hy ((h.cyc hT (by omega) hx).1 hr)⟩
theorem RowsOf.isPerm {xss:List (List Nat)} {T:List Nat} (h:RowsOf xss T):IsPerm T:=by
 have hf:=h.rowsF
 refine IsPerm.of_inj (fun i hi=>?_) (fun i j hi hj e=>?_)
 ·obtain⟨v,hv,hiv⟩:=List.mem_flatten.1 ((h.mem i).2 hi)
  exact (h.mem _).1 (List.mem_flatten.2 ⟨v,hv,hf.f_mem hv hiv⟩)
 ·obtain⟨v,hv,hiv⟩:=List.mem_flatten.1 ((h.mem i).2 hi)
  obtain⟨u,hu,hju⟩:=List.mem_flatten.1 ((h.mem j).2 hj)
  have h1:=hf.f_mem hv hiv
  have h2:=hf.f_mem hu hju
  rw[←e] at h2
  have:=hf.uni hv hu h1 h2
  subst this
  obtain⟨a,ha,rfl⟩:=List.getElem_of_mem hiv
  obtain⟨b,hb,rfl⟩:=List.getElem_of_mem hju
  have ea:=h.next v hv a ha
  have eb:=h.next v hv b hb
  rw[at'_eq ha] at ea
  rw[at'_eq hb] at eb
  rw[ea,eb,at'_eq (by unfold nextI;split <;> omega),at'_eq (by unfold nextI;split <;> omega)] at e
  have hnx:=nodup_inj (hf.rowNd hv) (by unfold nextI;split <;> omega) (by unfold nextI;split <;> omega) e
  have:a=b:=by unfold nextI at hnx;split at hnx <;> split at hnx <;> omega
  subst this
  rfl
theorem lists_ne {s:List Nat} (hs:IsPerm s):∀ v,v∈listsL s s.length→v≠[]:=fun v hv e=>by
 obtain⟨k,hk,h⟩:=(lists_all hs).2.2 v hv
 rw[e] at h
 cases h
theorem lists_count {s:List Nat} (hs:IsPerm s):(listsL s s.length).length=(sizesL s).length:=((lists_rows hs).count hs (lists_ne hs)).symm
theorem after_ne {xss:List (List Nat)} {t d:Nat} (h:∀ v,v∈xss→v≠[]):∀ v,v∈outL (aftF t d) xss→v≠[]:=fun v hv=>by
 unfold outL at hv
 obtain⟨u,hu,rfl⟩:=List.mem_map.1 hv
 obtain⟨x,hx⟩:=List.exists_mem_of_ne_nil u (h u hu)
 have:x∈u.flatMap (aftF t d):=List.mem_flatMap.2 ⟨x,hx,by unfold aftF;split <;> simp_all⟩
 exact List.ne_nil_of_mem this
theorem outL_len (f:Nat→List Nat) (xss:List (List Nat)):(outL f xss).length=xss.length:=by unfold outL;rw[List.length_map]
theorem tally_more {p:Nat→Prop} {n:Nat}:∀ {m:Nat},n≤m→(∀ k,n≤k→k<m→¬ p k)→tally p m=tally p n
 | 0,h,_=>by
  obtain rfl:n=0:=by omega
  rfl
 | m+1,h,hk=>by
  by_cases e:n=m+1
  ·rw[e]
  ·rw[tally_succ,ind_no (hk m (by omega) (by omega)),tally_more (show n≤m by omega) fun k h1 h2=>hk k h1 (by omega)]
   omega
theorem parts_grow {s t:List Nat} (hs:IsPerm s) (hes:s.length % 2=0) (ht:IsPerm t) (het:t.length % 2=0) (hl:s.length≤t.length) (π:Nat→Nat)
  (h0:∀ x,x<s.length→π x=x) (h1:∀ x,x<t.length→π x<s.length) (h2:∀ x,x<t.length→Con s (π x) (π (at' t x))) (h3:∀ x,x<t.length→Con s (π x) (π (x ^^^ 1)))
  (h4:∀ x,x<s.length→Con t x (at' s x)) (h5:∀ x,x<t.length→Con t (π x) x):partsN t=partsN s:=by
 have ps:=Con.per hs
 have pt:=Con.per ht
 have up:∀ {x y},Con t x y→Con s (π x) (π y):=fun {x y} h=>by
  have:(fun a b=>a<t.length∧b<t.length∧Con s (π a) (π b)) x y:=by
   refine Con.sub ht (r:=fun a b=>a<t.length∧b<t.length∧Con s (π a) (π b)) ⟨fun hx=>⟨hx,hx,ps.refl (h1 _ hx)⟩,fun h=>⟨h.2.1,h.1,ps.symm h.2.2⟩,fun h k=>⟨h.1,k.2.1,ps.trans h.2.2 k.2.2⟩,fun h=>h.1⟩ (fun x hx=>⟨hx,ht.lt hx,h2 x hx⟩) (fun x hx=>⟨hx,xor_one_lt het hx,h3 x hx⟩) h
  exact this.2.2
 have down:∀ {x y},Con s x y→Con t x y:=fun {x y} h=>by
  have:(fun a b=>a<s.length∧b<s.length∧Con t a b) x y:=by
   refine Con.sub hs (r:=fun a b=>a<s.length∧b<s.length∧Con t a b) ⟨fun hx=>⟨hx,hx,pt.refl (by omega)⟩,fun h=>⟨h.2.1,h.1,pt.symm h.2.2⟩,fun h k=>⟨h.1,k.2.1,pt.trans h.2.2 k.2.2⟩,fun h=>h.1⟩ (fun x hx=>⟨hx,hs.lt hx,h4 x hx⟩) (fun x hx=>⟨hx,xor_one_lt hes hx,Con.mate ht het (by omega)⟩) h
  exact this.2.2
 have e1:partsN t=tally (Least (Con t)) t.length:=(partsL_ord ht het).cnt_eq (Nat.le_refl _)
 have e2:partsN s=tally (Least (Con s)) s.length:=(partsL_ord hs hes).cnt_eq (Nat.le_refl _)
 rw[e1,e2,tally_more hl fun k hk hk2 hL=>hL (π k) (by have:=h1 k hk2;omega) (h5 k hk2)]
 refine tally_congr fun x hx=>⟨fun hL y hy h=>hL y hy (down h),fun hL y hy h=>hL y hy ?_⟩
 have:=up h
 rw[h0 x hx,h0 y (by omega)] at this
 exact this
theorem genus_grow {s t:List Nat} (hs:IsPerm s) (hes:s.length % 2=0) (ht:IsPerm t) (het:t.length % 2=0) {v f:Int} (hp:partsN t=partsN s) (hv:((sizesL t).length:Int)=(sizesL s).length+v) (hf:((sizesL (phiL t)).length:Int)=(sizesL (phiL s)).length+f) (he:((t.length / 2:Nat):Int)=((s.length / 2:Nat):Int)+(v+f)):genusL t=genusL s:=by
 have h1:=genus_total hs hes
 have h2:=genus_total ht het
 rw[hp,hv,hf,he] at h2
 omega
end
section
set_option linter.unusedVariables false
structure GrownL (s t:List Nat) (v f:Int):Prop where
 perm:IsPerm t
 even:t.length % 2=0
 parts:partsN t=partsN s
 vs:((sizesL t).length:Int)=(sizesL s).length+v
 fs:((sizesL (phiL t)).length:Int)=(sizesL (phiL s)).length+f
 es:((t.length / 2:Nat):Int)=((s.length / 2:Nat):Int)+(v+f)
theorem GrownL.genus {s t:List Nat} {v f:Int} (h:GrownL s t v f) (hs:IsPerm s) (hes:s.length % 2=0):genusL t=genusL s:=genus_grow hs hes h.perm h.even h.parts h.vs h.fs h.es
theorem insF_t (f:Nat→Nat) (t d:Nat):insF f t d t=d:=by unfold insF;rw[if_pos rfl]
theorem insF_d {f:Nat→Nat} {t d:Nat} (h:d≠t):insF f t d d=f t:=by unfold insF;rw[if_neg h,if_pos rfl]
theorem insF_o {f:Nat→Nat} {t d x:Nat} (h:x≠t) (h2:x≠d):insF f t d x=f x:=by unfold insF;rw[if_neg h,if_neg h2]
theorem delF_d {f:Nat→Nat} {d x:Nat} (h:f x=d):delF f d x=f d:=by unfold delF;rw[if_pos h]
theorem delF_o {f:Nat→Nat} {d x:Nat} (h:f x≠d):delF f d x=f x:=by unfold delF;rw[if_neg h]
theorem xor_add {n k:Nat} (hn:n % 2=0) (h:k<2):(n+k) ^^^ 1=n+(1-k):=by
 rw[xor_one]
 split <;> omega
theorem leaf_phi {s:List Nat} (hes:s.length % 2=0) {d:Nat} (hd:d<s.length) {y:Nat} (hy:y<s.length+2):at' (phiL (leafL s d)) y=insF (insF (at' (phiL s)) (d ^^^ 1) s.length) s.length (s.length+1) y:=by
 have hdl:=xor_one_lt hes hd
 rw[phiL_at (by rw[leafL_length];exact hy)]
 have n0:s.length ^^^ 1=s.length+1:=xor_add (k:=0) hes (by omega)
 have n1:(s.length+1) ^^^ 1=s.length:=xor_add (k:=1) hes (by omega)
 by_cases h1:y=s.length
 ·rw[h1,n0,insF_t,leaf_at hd (by omega),if_pos rfl]
 by_cases h2:y=s.length+1
 ·rw[h2,n1,insF_d (by omega),leaf_at hd (by omega),if_neg (by omega),insF_d (by omega),insF_d (by omega),phiL_at hdl,xor_one_one]
 have hyl:y<s.length:=by omega
 have hyx:=xor_one_lt hes hyl
 rw[insF_o h1 h2,leaf_at hd (by omega),if_neg (by omega)]
 by_cases h3:y=d ^^^ 1
 ·rw[h3,xor_one_one,insF_t,insF_t]
 ·have h4:y ^^^ 1≠d:=fun e=>h3 (by rw[←e,xor_one_one])
  rw[insF_o h4 (by omega),insF_o h3 h1,phiL_at hyl]
theorem lists_phi {s:List Nat} (hs:IsPerm s) (hes:s.length % 2=0):(listsL (phiL s) s.length).length=(sizesL (phiL s)).length:=by
 have:=lists_count (phiL_perm hs hes)
 rwa [phiL_length] at this
theorem lists_phi_ne {s:List Nat} (hs:IsPerm s) (hes:s.length % 2=0):∀ v,v∈listsL (phiL s) s.length→v≠[]:=by
 have:=lists_ne (phiL_perm hs hes)
 rwa [phiL_length] at this
section
variable {s : List Nat} (hs : IsPerm s) (hes : s.length % 2 = 0) {d : Nat} (hd : d < s.length)
include hs hes hd
theorem leaf_faces:RowsOf (outL (aftF s.length (s.length+1)) (outL (aftF (d ^^^ 1) s.length) (listsL (phiL s) s.length))) (phiL (leafL s d)):=by
 have hdl:=xor_one_lt hes hd
 have h0:=lists_rowsF (phiL_perm hs hes)
 rw[phiL_length] at h0
 have h1:=(h0.after (t:=d ^^^ 1) (d:=s.length) hdl (Nat.lt_irrefl _)).after (t:=s.length) (d:=s.length+1) (Or.inr rfl) (by omega)
 refine h1.rows (fun y=>by rw[phiL_length,leafL_length];omega) fun y hy=>?_
 rw[phiL_length,leafL_length] at hy
 exact leaf_phi hes hd hy
theorem leaf_grown:GrownL s (leafL s d) 1 0:=by
 have hr:=leaf_rows hs hd
 have ht:=hr.isPerm
 have hl:=leafL_length s d
 have he:(leafL s d).length % 2=0:=by rw[hl];omega
 have pt:=Con.per ht
 have ps:=Con.per hs
 have n0:s.length ^^^ 1=s.length+1:=xor_add (k:=0) hes (by omega)
 have n1:(s.length+1) ^^^ 1=s.length:=xor_add (k:=1) hes (by omega)
 have hdn:Con (leafL s d) d s.length:=by
  have:=Con.step ht (x:=d) (by omega)
  rwa [leaf_at hd (by omega),if_neg (by omega),insF_t] at this
 have hns:Con (leafL s d) s.length (at' s d):=by
  have:=Con.step ht (x:=s.length) (by omega)
  rwa [leaf_at hd (by omega),if_neg (by omega),insF_d (by omega)] at this
 refine⟨ht,he,?_,?_,?_,by rw[hl];omega⟩
 ·refine parts_grow hs hes ht he (by omega) (fun x=>if x<s.length then x else d) (fun x hx=>if_pos hx) (fun x hx=>?_) (fun x hx=>?_) (fun x hx=>?_) (fun x hx=>?_) (fun x hx=>?_)
  ·show (if x<s.length then x else d)<s.length
   split <;> omega
  ·rw[hl] at hx
   show Con s (if x<s.length then x else d) (if at' (leafL s d) x<s.length then at' (leafL s d) x else d)
   rw[leaf_at hd hx]
   by_cases h1:x=s.length+1
   ·rw[if_pos h1,if_neg (by omega),if_neg (by omega)];exact ps.refl hd
   ·rw[if_neg h1]
    by_cases h2:x=d
    ·rw[h2,insF_t,if_pos hd,if_neg (by omega)];exact ps.refl hd
    ·by_cases h3:x=s.length
     ·rw[h3,insF_d (by omega),if_neg (by omega),if_pos (hs.lt hd)];exact Con.step hs hd
     ·rw[insF_o h2 h3,if_pos (by omega),if_pos (hs.lt (by omega))];exact Con.step hs (by omega)
  ·rw[hl] at hx
   show Con s (if x<s.length then x else d) (if x ^^^ 1<s.length then x ^^^ 1 else d)
   by_cases h1:x<s.length
   ·rw[if_pos h1,if_pos (xor_one_lt hes h1)];exact Con.mate hs hes h1
   ·obtain rfl|rfl:x=s.length∨x=s.length+1:=by omega
    ·rw[n0,if_neg (by omega),if_neg (by omega)];exact ps.refl hd
    ·rw[n1,if_neg (by omega),if_neg (by omega)];exact ps.refl hd
  ·by_cases h2:x=d
   ·rw[h2];exact pt.trans hdn hns
   ·have:=Con.step ht (x:=x) (by omega)
    rwa [leaf_at hd (by omega),if_neg (by omega),insF_o h2 (by omega)] at this
  ·rw[hl] at hx
   show Con (leafL s d) (if x<s.length then x else d) x
   by_cases h1:x<s.length
   ·rw[if_pos h1];exact pt.refl (by omega)
   ·rw[if_neg h1]
    obtain rfl|rfl:x=s.length∨x=s.length+1:=by omega
    ·exact hdn
    ·have:=Con.mate ht he (x:=s.length) (by omega)
     rw[n0] at this
     exact pt.trans hdn this
 ·rw[hr.count ht (fun v hv=>by
   rcases List.mem_append.1 hv with hv|hv
   ·exact after_ne (lists_ne hs) v hv
   ·rw[List.mem_singleton.1 hv];simp),List.length_append,outL_len,lists_count hs]
  simp
 ·rw[(leaf_faces hs hes hd).count (phiL_perm ht he) (after_ne (after_ne (lists_phi_ne hs hes))),outL_len,outL_len,lists_phi hs hes]
  simp
end
section
variable {s : List Nat} (hs : IsPerm s) (hes : s.length % 2 = 0) {d m : Nat} (hm : d ^^^ 1 = m) (hd : d < s.length)
include hs hes hm hd
theorem split_phi {y:Nat} (hy:y<s.length+2):at' (phiL (splitL s d)) y=insF (insF (at' (phiL s)) d s.length) (if at' (phiL s) d=m then s.length else at' (invL (phiL s)) m) (s.length+1) y:=by
 have hml:m<s.length:=by rw[←hm];exact xor_one_lt hes hd
 have hmm:m ^^^ 1=d:=by rw[←hm,xor_one_one]
 have hp:=phiL_perm hs hes
 have hpl:=phiL_length s
 have pd:at' (phiL s) d=at' s m:=by rw[phiL_at hd,hm]
 rw[phiL_at (by rw[splitL_length];exact hy)]
 have n0:s.length ^^^ 1=s.length+1:=xor_add (k:=0) hes (by omega)
 have n1:(s.length+1) ^^^ 1=s.length:=xor_add (k:=1) hes (by omega)
 obtain⟨hi1,hi2⟩:=at_invL hp (y:=m) (by rw[hpl];exact hml)
 obtain⟨q,hq⟩:∃ q,at' (invL (phiL s)) m=q:=⟨_,rfl⟩
 rw[hq,hpl] at hi2
 rw[hq] at hi1 ⊢
 obtain⟨t,ht⟩:∃ t,(if at' (phiL s) d=m then s.length else q)=t:=⟨_,rfl⟩
 rw[ht]
 have hyx:y<s.length→y ^^^ 1<s.length:=fun h=>xor_one_lt hes h
 by_cases h1:y=s.length+1
 ·rw[h1,n1,split_at hs hm hml (by omega),if_neg (by omega),if_pos rfl]
  by_cases h2:at' (phiL s) d=m
  ·rw[if_pos h2] at ht
   rw[←ht,insF_d (by omega),insF_d (by omega),h2]
  ·rw[if_neg h2] at ht
   rw[←ht,insF_d (by omega),insF_o (fun e=>h2 (by rw[←e];exact hi1)) (by omega),hi1]
 by_cases h2:y=s.length
 ·rw[h2,n0,split_at hs hm hml (by omega),if_neg (by omega),if_neg (by omega),if_pos rfl]
  by_cases h3:at' (phiL s) d=m
  ·rw[if_pos h3] at ht
   rw[←ht,insF_t,if_pos (by rw[←pd];exact h3)]
  ·rw[if_neg h3] at ht
   rw[←ht,insF_o (by omega) (by omega),insF_d (by omega),if_neg (by rw[←pd];exact h3),pd]
 have hyl:y<s.length:=by omega
 have hyx:=xor_one_lt hes hyl
 rw[split_at hs hm hml (by omega)]
 by_cases h3:y=d
 ·rw[h3,hm,if_pos rfl]
  by_cases h4:at' (phiL s) d=m
  ·rw[if_pos h4] at ht
   rw[←ht,insF_o (by omega) (by omega),insF_t]
  ·rw[if_neg h4] at ht
   rw[←ht,insF_o (fun e=>h4 (by rw[e];exact hi1)) (by omega),insF_t]
 ·rw[if_neg (show ¬ y ^^^ 1=m from fun e=>h3 (by rw[←xor_one_one y,e,hmm])),if_neg (by omega),if_neg (by omega)]
  have py:at' (phiL s) y=at' s (y ^^^ 1):=phiL_at hyl
  by_cases h5:at' s (y ^^^ 1)=m
  ·rw[if_pos h5]
   have hyq:y=q:=hp.inj (by rw[hpl];exact hyl) (by rw[hpl];exact hi2) (by rw[py,h5,hi1])
   have h6:¬ at' (phiL s) d=m:=fun e=>h3 (hp.inj (by rw[hpl];exact hyl) (by rw[hpl];exact hd) (by rw[py,h5,e]))
   rw[if_neg h6] at ht
   rw[←ht,hyq,insF_t]
  ·rw[if_neg h5]
   have h6:y≠t:=fun e=>by
    by_cases h7:at' (phiL s) d=m
    ·rw[if_pos h7] at ht;omega
    ·rw[if_neg h7] at ht
     rw[←ht] at e
     exact h5 (by rw[←py,e];exact hi1)
   rw[insF_o h6 h1,insF_o h3 h2,py]
theorem split_faces:∃ t,RowsOf (outL (aftF t (s.length+1)) (outL (aftF d s.length) (listsL (phiL s) s.length))) (phiL (splitL s d)):=by
 have hml:m<s.length:=by rw[←hm];exact xor_one_lt hes hd
 have h0:=lists_rowsF (phiL_perm hs hes)
 rw[phiL_length] at h0
 obtain⟨hi1,hi2⟩:=at_invL (phiL_perm hs hes) (y:=m) (by rw[phiL_length];exact hml)
 rw[phiL_length] at hi2
 refine⟨_,((h0.after (t:=d) (d:=s.length) hd (Nat.lt_irrefl _)).after (t:=if at' (phiL s) d=m then s.length else at' (invL (phiL s)) m) (d:=s.length+1) ?_ (by omega)).rows (fun y=>by rw[phiL_length,splitL_length];omega) fun y hy=>?_⟩
 ·split
  ·exact Or.inr rfl
  ·exact Or.inl hi2
 ·rw[phiL_length,splitL_length] at hy
  exact split_phi hs hes hm hd hy
theorem split_grown:GrownL s (splitL s d) 1 0:=by
 have hml:m<s.length:=by rw[←hm];exact xor_one_lt hes hd
 have hr:=split_rows hs hm hml
 have ht:=hr.isPerm
 have hl:=splitL_length s d
 have he:(splitL s d).length % 2=0:=by rw[hl];omega
 have pt:=Con.per ht
 have ps:=Con.per hs
 have n0:s.length ^^^ 1=s.length+1:=xor_add (k:=0) hes (by omega)
 have n1:(s.length+1) ^^^ 1=s.length:=xor_add (k:=1) hes (by omega)
 have stp:∀ x,x<s.length+2→Con (splitL s d) x (at' (splitL s d) x):=fun x hx=>Con.step ht (by rw[hl];exact hx)
 have hmn:Con (splitL s d) m s.length:=by
  have:=stp m (by omega)
  rwa [split_at hs hm hml (by omega),if_pos rfl] at this
 have hmn1:Con (splitL s d) m (s.length+1):=by
  have:=Con.mate ht he (x:=s.length) (by omega)
  rw[n0] at this
  exact pt.trans hmn this
 have hms:Con (splitL s d) m (at' s m):=by
  have:=stp (s.length+1) (by omega)
  rw[split_at hs hm hml (by omega),if_neg (by omega),if_neg (by omega),if_pos rfl] at this
  by_cases h:at' s m=m
  ·rw[h];exact pt.refl (by omega)
  ·rw[if_neg h] at this
   exact pt.trans hmn1 this
 refine⟨ht,he,?_,?_,?_,by rw[hl];omega⟩
 ·refine parts_grow hs hes ht he (by omega) (fun x=>if x<s.length then x else m) (fun x hx=>if_pos hx) (fun x hx=>?_) (fun x hx=>?_) (fun x hx=>?_) (fun x hx=>?_) (fun x hx=>?_)
  ·show (if x<s.length then x else m)<s.length
   split <;> omega
  ·rw[hl] at hx
   show Con s (if x<s.length then x else m) (if at' (splitL s d) x<s.length then at' (splitL s d) x else m)
   rw[split_at hs hm hml hx]
   by_cases h1:x=m
   ·rw[if_pos h1,if_neg (show ¬ s.length<s.length by omega),h1,if_pos hml];exact ps.refl hml
   rw[if_neg h1]
   by_cases h2:x=s.length
   ·rw[if_pos h2,if_neg (by omega),if_pos hml];exact ps.refl hml
   rw[if_neg h2]
   by_cases h3:x=s.length+1
   ·rw[if_pos h3,if_neg (by omega)]
    by_cases h4:at' s m=m
    ·rw[if_pos h4,if_neg (by omega)];exact ps.refl hml
    ·rw[if_neg h4,if_pos (hs.lt hml)];exact Con.step hs hml
   rw[if_neg h3,if_pos (by omega)]
   by_cases h4:at' s x=m
   ·rw[if_pos h4,if_neg (by omega),←h4];exact Con.step hs (by omega)
   ·rw[if_neg h4,if_pos (hs.lt (by omega))];exact Con.step hs (by omega)
  ·rw[hl] at hx
   show Con s (if x<s.length then x else m) (if x ^^^ 1<s.length then x ^^^ 1 else m)
   by_cases h1:x<s.length
   ·rw[if_pos h1,if_pos (xor_one_lt hes h1)];exact Con.mate hs hes h1
   ·obtain rfl|rfl:x=s.length∨x=s.length+1:=by omega
    ·rw[n0,if_neg (by omega),if_neg (by omega)];exact ps.refl hml
    ·rw[n1,if_neg (by omega),if_neg (by omega)];exact ps.refl hml
  ·by_cases h2:x=m
   ·rw[h2];exact hms
   ·have:=stp x (by omega)
    rw[split_at hs hm hml (by omega),if_neg h2,if_neg (by omega),if_neg (by omega)] at this
    by_cases h4:at' s x=m
    ·rw[if_pos h4] at this
     rw[h4]
     exact pt.trans this (pt.symm hmn1)
    ·rwa [if_neg h4] at this
  ·rw[hl] at hx
   show Con (splitL s d) (if x<s.length then x else m) x
   by_cases h1:x<s.length
   ·rw[if_pos h1];exact pt.refl (by omega)
   ·rw[if_neg h1]
    obtain rfl|rfl:x=s.length∨x=s.length+1:=by omega
    ·exact hmn
    ·exact hmn1
 ·rw[hr.count ht (fun v hv=>by
   rcases List.mem_append.1 hv with hv|hv
   ·unfold outL at hv
    obtain⟨u,hu,rfl⟩:=List.mem_map.1 hv
    obtain⟨u0,hu0,rfl⟩:=List.mem_map.1 hu
    obtain⟨x,hx⟩:=List.exists_mem_of_ne_nil u0 (lists_ne hs u0 hu0)
    by_cases hxm:x=m
    ·refine List.ne_nil_of_mem (a:=s.length+1) (List.mem_flatMap.2 ⟨s.length+1,List.mem_flatMap.2 ⟨x,hx,by unfold aftF;rw[if_pos hxm];simp⟩,by unfold witF;rw[if_neg (by omega)];simp⟩)
    ·refine List.ne_nil_of_mem (a:=x) (List.mem_flatMap.2 ⟨x,List.mem_flatMap.2 ⟨x,hx,by unfold aftF;rw[if_neg hxm];simp⟩,by unfold witF;rw[if_neg hxm];simp⟩)
   ·rw[List.mem_singleton.1 hv];simp),List.length_append,outL_len,outL_len,lists_count hs]
  simp
 ·obtain⟨t,hf⟩:=split_faces hs hes hm hd
  rw[hf.count (phiL_perm ht he) (after_ne (after_ne (lists_phi_ne hs hes))),outL_len,outL_len,lists_phi hs hes]
  simp
end
end
section
set_option linter.unusedVariables false
theorem sameRow_after {xss:List (List Nat)} {t d x y:Nat} (h:SameRow xss x y):SameRow (outL (aftF t d) xss) x y:=by
 obtain⟨v,hv,hx,hy⟩:=h
 have key:∀ z,z∈v→z∈v.flatMap (aftF t d):=fun z hz=>List.mem_flatMap.2 ⟨z,hz,by unfold aftF;split <;> simp⟩
 exact⟨_,List.mem_map.2 ⟨v,hv,rfl⟩,key x hx,key y hy⟩
theorem face_con {s:List Nat} (hs:IsPerm s) (hes:s.length % 2=0) {x y:Nat} (h:cyc s.length (at' (phiL s)) x y):Con s x y:=by
 have hp:=(phiL_perm hs hes).pm
 rw[phiL_length] at hp
 have ps:=Con.per hs
 refine hp.cyc_sub ps (fun z hz=>?_) h
 rw[phiL_at hz]
 exact ps.trans (Con.mate hs hes hz) (Con.step hs (xor_one_lt hes hz))
theorem orbit_at {s:List Nat} (hs:IsPerm s) {k:Nat} (hk:k<s.length) {j:Nat} (hj:j<(orbitL s k).length):at' s (at' (orbitL s k) j)=at' (orbitL s k) (nextI (orbitL s k).length j):=by
 obtain⟨c,hc,hcl,he⟩:=orbitL_map hs hk
 have hl:(orbitL s k).length=c:=by rw[he];simp
 have ha:∀ j,j<c→at' (orbitL s k) j=it s j k:=fun j hj=>by rw[he];simp[at',hj]
 have hsucc:∀ j,it s (j+1) k=at' s (it s j k):=fun j=>by rw[it_itf,it_itf,itf_succ]
 rw[hl] at hj ⊢
 unfold nextI
 by_cases e:j+1<c
 ·rw[if_pos e,ha j hj,ha _ e,hsucc]
 ·rw[if_neg e,ha j hj,ha 0 hc,←hsucc,show j+1=c by omega,hcl]
  rfl
theorem cls_true {n:Nat} {r:Nat→Nat→Prop}:cls r (fun _=>True) n=tally (Least r) n:=tally_congr fun x _=>⟨fun h=>h.2,fun h=>⟨trivial,h⟩⟩
section
variable {s : List Nat} (hs : IsPerm s) (hes : s.length % 2 = 0) {d e : Nat} (hd : d < s.length) (he : e < s.length)
include hs hes hd he
theorem chord_grown (hf:nth (namesL (phiL s)) (at' s d)=nth (namesL (phiL s)) (at' s e)):GrownL s (chordL s d e) 0 1:=by
 have hr:=chord_rows hs hd he
 have ht:=hr.isPerm
 have hl:(chordL s d e).length=s.length+2:=by unfold chordL;rw[behindL_length,leafL_length]
 have hee:(chordL s d e).length % 2=0:=by rw[hl];omega
 have pt:=Con.per ht
 have ps:=Con.per hs
 have n0:s.length ^^^ 1=s.length+1:=xor_add (k:=0) hes (by omega)
 have n1:(s.length+1) ^^^ 1=s.length:=xor_add (k:=1) hes (by omega)
 have hdl:=xor_one_lt hes hd
 have hel:=xor_one_lt hes he
 obtain⟨t,htt⟩:∃ t,(if d=e then s.length else e)=t:=⟨_,rfl⟩
 have htl:t≤s.length:=by rw[←htt];split <;> omega
 have cat:∀ y,y<s.length+2→at' (chordL s d e) y=insF (at' (leafL s d)) t (s.length+1) y:=fun y hy=>by
  unfold chordL
  rw[htt,behind_at (by rw[leafL_length];exact hy)]
 have lat:∀ y,y≤s.length→at' (leafL s d) y=insF (at' s) d s.length y:=fun y hy=>by rw[leaf_at hd (by omega),if_neg (by omega)]
 have ll:at' (leafL s d) (s.length+1)=s.length+1:=by rw[leaf_at hd (by omega),if_pos rfl]
 have lg:=leaf_grown hs hes hd
 have lfr:=leaf_faces hs hes hd
 have hlp:=phiL_perm lg.perm lg.even
 have hlpl:(phiL (leafL s d)).length=s.length+2:=by rw[phiL_length,leafL_length]
 have hpm:=hlp.pm
 rw[hlpl] at hpm
 have hcf:cyc s.length (at' (phiL s)) (at' s d) (at' s e):=by
  have h1:=(namesL_ord (phiL_perm hs hes)).rel (at' s d) (at' s e) (by rw[phiL_length];exact hs.lt hd) (by rw[phiL_length];exact hs.lt he)
  rw[phiL_length] at h1
  exact h1.1 hf
 have hcde:Con s d e:=ps.trans (Con.step hs hd) (ps.trans (face_con hs hes hcf) (ps.symm (Con.step hs he)))
 have stp:∀ x,x<s.length+2→cyc (s.length+2) (at' (phiL (leafL s d))) x (at' (phiL (leafL s d)) x):=fun x hx=>hpm.step hx
 have pp:=hpm.per
 have hdn:cyc (s.length+2) (at' (phiL (leafL s d))) (d ^^^ 1) s.length:=by
  have:=stp (d ^^^ 1) (by omega)
  rwa [leaf_phi hes hd (by omega),insF_o (by omega) (by omega),insF_t] at this
 have hone:cyc (s.length+2) (at' (phiL (leafL s d))) (t ^^^ 1) s.length:=by
  by_cases hde:d=e
  ·rw[if_pos hde] at htt
   rw[←htt,n0]
   have:=stp s.length (by omega)
   rw[leaf_phi hes hd (by omega),insF_t] at this
   exact pp.symm this
  ·rw[if_neg hde] at htt
   rw[←htt]
   refine pp.trans (pp.symm ?_) hdn
   have h0:=lists_rows (phiL_perm hs hes)
   have hq:(phiL s).length=s.length:=phiL_length s
   have hpq:=(phiL_perm hs hes).pm
   rw[hq] at hpq
   have hc:cyc s.length (at' (phiL s)) (d ^^^ 1) (e ^^^ 1):=by
    have c1:=hpq.step hdl
    rw[phiL_at hdl,xor_one_one] at c1
    have c2:=hpq.step hel
    rw[phiL_at hel,xor_one_one] at c2
    exact hpq.per.trans c1 (hpq.per.trans hcf (hpq.per.symm c2))
   have hsr:=(h0.cyc (phiL_perm hs hes) (x:=d ^^^ 1) (y:=e ^^^ 1) (by rw[hq];exact hdl) (by rw[hq];exact hel)).1 (by rw[hq];exact hc)
   rw[hq] at hsr
   have:=(lfr.cyc hlp (x:=d ^^^ 1) (y:=e ^^^ 1) (by rw[hlpl];omega) (by rw[hlpl];omega)).2 (sameRow_after (sameRow_after hsr))
   rwa [hlpl] at this
 have hx1:t ^^^ 1<s.length+2:=by
  by_cases h:t=s.length
  ·rw[h,n0];omega
  ·have:=xor_one_lt hes (show t<s.length by omega);omega
 have hne:t ^^^ 1≠s.length:=fun e0=>by
  have e1:t=s.length+1:=by rw[←xor_one_one t,e0,n0]
  omega
 have cphi:∀ y,y<s.length+2→at' (phiL (chordL s d e)) y=swp (at' (phiL (leafL s d))) (t ^^^ 1) s.length y:=fun y hy=>by
  have hyx:y ^^^ 1<s.length+2:=xor_one_lt (n:=s.length+2) (by omega) hy
  rw[phiL_at (by rw[hl];exact hy),cat _ hyx]
  unfold swp
  have e1:∀ z,z<s.length+2→at' (phiL (leafL s d)) z=at' (leafL s d) (z ^^^ 1):=fun z hz=>phiL_at (by rw[leafL_length];exact hz)
  by_cases h1:y=t ^^^ 1
  ·rw[if_pos h1,h1,xor_one_one,insF_t,e1 _ (by omega),n0,ll]
  ·have h1':y ^^^ 1≠t:=fun e0=>h1 (by rw[←e0,xor_one_one])
   rw[if_neg h1]
   by_cases h2:y=s.length
   ·rw[if_pos h2,h2,n0,insF_d (by omega),e1 _ hx1,xor_one_one]
   ·have h2':y ^^^ 1≠s.length+1:=fun e0=>h2 (by rw[←xor_one_one y,e0,n1])
    rw[if_neg h2,insF_o h1' h2',e1 _ hy]
 refine⟨ht,hee,?_,?_,?_,by rw[hl];omega⟩
 ·-- the parts
  have cstp:∀ x,x<s.length+2→Con (chordL s d e) x (at' (chordL s d e) x):=fun x hx=>Con.step ht (by rw[hl];exact hx)
  have tdn:Con (chordL s d e) d s.length:=by
   have:=cstp d (by omega)
   have hdt:d≠t:=fun e0=>by
    by_cases hde:d=e
    ·rw[if_pos hde] at htt;omega
    ·rw[if_neg hde] at htt;omega
   rwa [cat d (by omega),insF_o hdt (by omega),lat d (by omega),insF_t] at this
  have mnn:Con (chordL s d e) s.length (s.length+1):=by
   have:=Con.mate ht hee (x:=s.length) (by omega)
   rwa [n0] at this
  have tn1:Con (chordL s d e) (s.length+1) (at' (leafL s d) t):=by
   have:=cstp (s.length+1) (by omega)
   rwa [cat _ (by omega),insF_d (by omega)] at this
  have tt1:Con (chordL s d e) t (s.length+1):=by
   have:=cstp t (by omega)
   rwa [cat _ (by omega),insF_t] at this
  have tds:Con (chordL s d e) d (at' s d):=by
   by_cases hde:d=e
   ·rw[if_pos hde] at htt
    rw[←htt,lat _ (by omega),insF_d (by omega)] at tn1
    exact pt.trans tdn (pt.trans mnn tn1)
   ·rw[if_neg hde] at htt
    have:=cstp s.length (by omega)
    rw[cat _ (by omega),insF_o (by omega) (by omega),lat _ (by omega),insF_d (by omega)] at this
    exact pt.trans tdn this
  refine parts_grow hs hes ht hee (by omega) (fun x=>if x<s.length then x else d) (fun x hx=>if_pos hx) (fun x hx=>?_) (fun x hx=>?_) (fun x hx=>?_) (fun x hx=>?_) (fun x hx=>?_)
  ·show (if x<s.length then x else d)<s.length
   split <;> omega
  ·rw[hl] at hx
   show Con s (if x<s.length then x else d) (if at' (chordL s d e) x<s.length then at' (chordL s d e) x else d)
   have lstep:∀ x,x≤s.length→Con s (if x<s.length then x else d) (if at' (leafL s d) x<s.length then at' (leafL s d) x else d):=fun x hx=>by
    rw[lat x hx]
    by_cases h2:x=d
    ·rw[h2,insF_t,if_pos hd,if_neg (by omega)];exact ps.refl hd
    ·by_cases h3:x=s.length
     ·rw[h3,insF_d (by omega),if_neg (by omega),if_pos (hs.lt hd)];exact Con.step hs hd
     ·rw[insF_o h2 h3,if_pos (by omega),if_pos (hs.lt (by omega))];exact Con.step hs (by omega)
   have htd:Con s (if t<s.length then t else d) d:=by
    by_cases hde:d=e
    ·rw[if_pos hde] at htt
     rw[←htt,if_neg (by omega)];exact ps.refl hd
    ·rw[if_neg hde] at htt
     rw[←htt,if_pos he];exact ps.symm hcde
   rw[cat x hx]
   by_cases h1:x=t
   ·rw[h1,insF_t,if_neg (show ¬ s.length+1<s.length by omega)]
    exact htd
   ·by_cases h2:x=s.length+1
    ·rw[h2,insF_d (by omega),if_neg (show ¬ s.length+1<s.length by omega)]
     exact ps.trans (ps.symm htd) (lstep t htl)
    ·rw[insF_o h1 h2]
     exact lstep x (by omega)
  ·rw[hl] at hx
   show Con s (if x<s.length then x else d) (if x ^^^ 1<s.length then x ^^^ 1 else d)
   by_cases h1:x<s.length
   ·rw[if_pos h1,if_pos (xor_one_lt hes h1)];exact Con.mate hs hes h1
   ·obtain rfl|rfl:x=s.length∨x=s.length+1:=by omega
    ·rw[n0,if_neg (by omega),if_neg (by omega)];exact ps.refl hd
    ·rw[n1,if_neg (by omega),if_neg (by omega)];exact ps.refl hd
  ·by_cases h2:x=d
   ·rw[h2];exact tds
   ·by_cases h3:x=t
    ·have h4:=pt.trans tt1 tn1
     rw[←h3,lat x (by omega),insF_o h2 (by omega)] at h4
     exact h4
    ·have:=cstp x (by omega)
     rwa [cat _ (by omega),insF_o h3 (by omega),lat x (by omega),insF_o h2 (by omega)] at this
  ·rw[hl] at hx
   show Con (chordL s d e) (if x<s.length then x else d) x
   by_cases h1:x<s.length
   ·rw[if_pos h1];exact pt.refl (by omega)
   ·rw[if_neg h1]
    obtain rfl|rfl:x=s.length∨x=s.length+1:=by omega
    ·exact tdn
    ·exact pt.trans tdn mnn
 ·rw[hr.count ht (after_ne (after_ne (lists_ne hs))),outL_len,outL_len,lists_count hs]
  simp
 ·have hc:=hpm.swp_cls (P:=fun _=>True) (fun x _=>Iff.rfl) hx1 (by omega) hne trivial trivial
  rcases hc with ⟨h,_⟩|⟨_,h⟩
  ·exact absurd hone h
  ·have e1:=sizesL_tally (phiL_perm ht hee)
   have e2:=sizesL_tally hlp
   rw[phiL_length,hl] at e1
   rw[hlpl] at e2
   rw[cls_true,cls_true] at h
   have e3:tally (Least (cyc (s.length+2) (at' (phiL (chordL s d e))))) (s.length+2)=tally (Least (cyc (s.length+2) (swp (at' (phiL (leafL s d))) (t ^^^ 1) s.length))) (s.length+2):=by
    have hpc:=(phiL_perm ht hee).pm
    rw[phiL_length,hl] at hpc
    refine tally_congr fun x hx=>?_
    unfold Least
    exact⟨fun hL y hy hr=>hL y hy ((cyc_congr hpc cphi).2 hr),fun hL y hy hr=>hL y hy ((cyc_congr hpc cphi).1 hr)⟩
   have e4:=lg.fs
   rw[e1,e3]
   rw[e2] at e4
   omega
end
end
end Go.Proofs.Ytklkgicjfnbndaa
