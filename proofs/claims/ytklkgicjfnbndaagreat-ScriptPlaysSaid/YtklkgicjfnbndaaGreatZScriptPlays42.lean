/- What the document does to lists is what the program does to the map: a leaf, a chord, a split, a star, a flip. -/
import Derived.Test.YtklkgicjfnbndaaGreatZScriptPlays41
import Derived.Test.YtklkgicjfnbndaaGreatZScriptPlays39
namespace Go.Proofs.YtklkgicjfnbndaaGreat
section
set_option linter.unusedVariables false
theorem insF_congr {f g:Nat→Nat} {t d x:Nat} (h1:f t=g t) (h2:x≠t→x≠d→f x=g x):insF f t d x=insF g t d x:=by
 unfold insF
 by_cases e:x=t
 ·rw[if_pos e,if_pos e]
 ·rw[if_neg e,if_neg e]
  by_cases e2:x=d
  ·rw[if_pos e2,if_pos e2,h1]
  ·rw[if_neg e2,if_neg e2,h2 e e2]
theorem behind_at {L:List Nat} {d t x:Nat} (hx:x<L.length):at' (behindL L d t) x=insF (at' L) t d x:=by
 unfold behindL insF
 rw[at_set (by rw[List.length_set];exact hx),at_set hx]
 by_cases h:t=x
 ·rw[if_pos h,if_pos h.symm]
 ·rw[if_neg h,if_neg (show ¬ x=t from fun e=>h e.symm)]
  by_cases h2:d=x
  ·rw[if_pos h2,if_pos h2.symm]
  ·rw[if_neg h2,if_neg (show ¬ x=d from fun e=>h2 e.symm)]
theorem at_new2 {s:List Nat} {x:Nat} (h:x<s.length+2):at' (s ++ [s.length,s.length+1]) x=if x<s.length then at' s x else x:=by
 rw[at'_eq (by simp;omega)]
 by_cases h1:x<s.length
 ·rw[List.getElem_append_left h1,if_pos h1,at'_eq h1]
 ·rw[List.getElem_append_right (by omega),if_neg h1]
  obtain rfl|rfl:x=s.length∨x=s.length+1:=by omega
  ·simp
  ·simp
theorem leaf_at {s:List Nat} {d y:Nat} (hd:d<s.length) (hy:y<s.length+2):at' (leafL s d) y=if y=s.length+1 then s.length+1 else insF (at' s) d s.length y:=by
 unfold leafL
 rw[behind_at (by simp;omega)]
 unfold insF
 have hD:=at_new2 (s:=s) (x:=d) (by omega)
 rw[if_pos hd] at hD
 rw[hD,at_new2 hy]
 by_cases h1:y=s.length+1
 ·rw[if_pos h1,if_neg (by omega),if_neg (by omega),if_neg (by omega),h1]
 ·rw[if_neg h1]
  by_cases h2:y=d
  ·rw[if_pos h2,if_pos h2]
  ·rw[if_neg h2,if_neg h2]
   by_cases h3:y=s.length
   ·rw[if_pos h3,if_pos h3]
   ·rw[if_neg h3,if_neg h3,if_pos (by omega)]
theorem cy_one {f:Nat→Nat} {x:Nat} (h:f x=x):Cy f [x]:=Cy.ch.2 h
theorem leaf_rows {s:List Nat} (hs:IsPerm s) {d:Nat} (hd:d<s.length):RowsOf (outL (aftF d s.length) (listsL s s.length) ++ [[s.length+1]]) (leafL s d):=by
 have h1:=((lists_rowsF hs).after hd (Nat.lt_irrefl s.length)).congr (g:=at' (leafL s d)) (fun y=>Iff.rfl) fun y hy=>by rw[leaf_at hd (by omega),if_neg (by omega)]
 refine (h1.more (v:=[s.length+1]) (by simp) (fun x hx=>?_) (cy_one ?_) fun x _=>rfl).rows (fun y=>?_) fun y _=>rfl
 ·rw[List.mem_singleton] at hx;omega
 ·rw[leaf_at hd (by omega),if_pos rfl]
 ·rw[List.mem_singleton,leafL_length];omega
theorem chord_rows {s:List Nat} (hs:IsPerm s) {d e:Nat} (hd:d<s.length) (he:e<s.length):RowsOf (outL (aftF (if d=e then s.length else e) (s.length+1)) (outL (aftF d s.length) (listsL s s.length))) (chordL s d e):=by
 have h1:=(lists_rowsF hs).after hd (Nat.lt_irrefl s.length)
 obtain⟨t,ht⟩:∃ t,(if d=e then s.length else e)=t:=⟨_,rfl⟩
 have htl:t≤s.length:=by rw[←ht];split <;> omega
 unfold chordL
 rw[ht]
 have h2:=h1.after (t:=t) (d:=s.length+1) (by omega) (by omega)
 refine h2.rows (fun y=>by rw[behindL_length,leafL_length];omega) fun y hy=>?_
 rw[behindL_length,leafL_length] at hy
 rw[behind_at (by rw[leafL_length];exact hy)]
 have e1:∀ x,x≤s.length→at' (leafL s d) x=insF (at' s) d s.length x:=fun x hx=>by rw[leaf_at hd (by omega),if_neg (by omega)]
 unfold insF at e1 ⊢
 by_cases h3:y=t
 ·rw[if_pos h3,if_pos h3]
 ·rw[if_neg h3,if_neg h3]
  by_cases h4:y=s.length+1
  ·rw[if_pos h4,if_pos h4,e1 t htl]
  ·rw[if_neg h4,if_neg h4,e1 y (by omega)]
theorem splitL_length (s:List Nat) (d:Nat):(splitL s d).length=s.length+2:=by
 unfold splitL;dsimp only;split <;> simp
theorem cy_two {f:Nat→Nat} {x y:Nat} (h:f x=y) (h2:f y=x):Cy f [x,y]:=Cy.ch.2 ⟨h,h2⟩
theorem split_at {s:List Nat} (hs:IsPerm s) {d m y:Nat} (hm:d ^^^ 1=m) (hml:m<s.length) (hy:y<s.length+2):
  at' (splitL s d) y=if y=m then s.length else if y=s.length then m else if y=s.length+1 then (if at' s m=m then s.length+1 else at' s m) else if at' s y=m then s.length+1 else at' s y:=by
 unfold splitL
 dsimp only
 rw[hm]
 obtain⟨hk1,hk2⟩:=at_invL hs hml
 obtain⟨k,hk⟩:∃ k,at' (invL s) m=k:=⟨_,rfl⟩
 rw[hk] at hk1 hk2 ⊢
 have hkm:k=m↔at' s m=m:=⟨fun h=>by rw[h] at hk1;exact hk1,fun h=>hs.inj hk2 hml (by rw[hk1,h])⟩
 have hL:(s ++ [s.length,s.length+1]).length=s.length+2:=by simp
 have hM:=at_new2 (s:=s) (x:=m) (by omega)
 rw[if_pos hml] at hM
 have key:∀ L:List Nat,L.length=s.length+2→at' ((L.set s.length m).set m s.length) y=if y=m then s.length else if y=s.length then m else at' L y:=fun L hl=>by
  rw[at_set (by rw[List.length_set,hl];exact hy),at_set (by rw[hl];exact hy)]
  by_cases h:m=y
  ·rw[if_pos h,if_pos h.symm]
  ·rw[if_neg h,if_neg (show ¬ y=m from fun e=>h e.symm)]
   by_cases h2:s.length=y
   ·rw[if_pos h2,if_pos h2.symm]
   ·rw[if_neg h2,if_neg (show ¬ y=s.length from fun e=>h2 e.symm)]
 rw[key _ (by split <;> simp)]
 by_cases h1:y=m
 ·rw[if_pos h1,if_pos h1]
 rw[if_neg h1,if_neg h1]
 by_cases h2:y=s.length
 ·rw[if_pos h2,if_pos h2]
 rw[if_neg h2,if_neg h2]
 by_cases hkk:k=m
 ·rw[if_pos hkk,at_set (by rw[hL];exact hy),at_new2 hy]
  by_cases h3:y=s.length+1
  ·rw[if_pos h3.symm,if_pos h3,if_pos (hkm.1 hkk)]
  ·rw[if_neg (fun e=>h3 e.symm),if_neg h3,if_pos (by omega),if_neg]
   intro e
   exact h1 ((hs.inj (by omega) hk2 (e.trans hk1.symm)).trans hkk)
 ·rw[if_neg hkk,at_set (by rw[List.length_set,hL];exact hy),at_set (by rw[hL];exact hy),at_new2 hy,hM]
  by_cases h3:y=s.length+1
  ·rw[if_pos h3.symm,if_pos h3,if_neg (fun e=>hkk (hkm.2 e))]
  ·rw[if_neg (fun e=>h3 e.symm),if_neg h3]
   by_cases h4:k=y
   ·rw[if_pos h4,if_pos (show at' s y=m by rw[←h4];exact hk1)]
   ·rw[if_neg h4,if_pos (show y<s.length by omega),if_neg (show ¬ at' s y=m from fun e=>h4 (hs.inj (by omega) hk2 (e.trans hk1.symm)).symm)]
theorem split_rows {s:List Nat} (hs:IsPerm s) {d m:Nat} (hm:d ^^^ 1=m) (hml:m<s.length):RowsOf (outL (witF m) (outL (aftF m (s.length+1)) (listsL s s.length)) ++ [[s.length,m]]) (splitL s d):=by
 have h1:=((lists_rowsF hs).after (t:=m) (d:=s.length+1) hml (by omega)).without m
 have h2:=h1.congr (g:=at' (splitL s d)) (fun y=>Iff.rfl) fun y hy=>by
  have hne:y≠m:=hy.2
  have hy2:y<s.length∨y=s.length+1:=hy.1
  rw[split_at hs hm hml (by omega),if_neg hne,if_neg (by omega)]
  have hvm:insF (at' s) m (s.length+1) m=s.length+1:=by unfold insF;rw[if_pos rfl]
  unfold delF
  rw[hvm]
  unfold insF
  rw[if_neg hne]
  by_cases h3:y=s.length+1
  ·rw[if_pos h3,if_pos h3]
  ·rw[if_neg h3,if_neg h3]
 refine (h2.more (v:=[s.length,m]) ?_ (fun x hx=>?_) (cy_two ?_ ?_) fun x _=>rfl).rows (fun y=>?_) fun y _=>rfl
 ·simp;omega
 ·simp at hx;omega
 ·rw[split_at hs hm hml (by omega),if_neg (by omega),if_pos rfl]
 ·rw[split_at hs hm hml (by omega),if_pos rfl]
 ·rw[splitL_length]
  simp
  omega
def starLs (s O:List Nat):Nat→List (List Nat)
 | 0=>listsL s s.length
 | i+1=>outL (aftF (at' (invL s) (at' O i)) (s.length+2*i)) (starLs s O i)
def hubL (n:Nat):Nat→List Nat
 | 0=>[]
 | i+1=>(n+2*i+1) :: hubL n i
theorem hubL_length (n:Nat):∀ i,(hubL n i).length=i
 | 0=>rfl
 | i+1=>by unfold hubL;rw[List.length_cons,hubL_length n i]
theorem hubL_at (n:Nat):∀ {i j:Nat},j<i→at' (hubL n i) j=n+2*(i-1-j)+1
 | i+1,0,_=>by show n+2*i+1=_;simp
 | i+1,j+1,h=>by
  show at' (hubL n i) j=_
  rw[hubL_at n (by omega),show i+1-1-(j+1)=i-1-j by omega]
theorem hubL_mem (n:Nat):∀ {i x:Nat},x∈hubL n i↔∃ j,j<i∧x=n+2*j+1
 | 0,x=>⟨fun h=>(by cases h),fun ⟨j,h,_⟩=>(by omega)⟩
 | i+1,x=>by
  unfold hubL
  rw[List.mem_cons,hubL_mem n]
  constructor
  ·rintro (h|⟨j,h1,h2⟩)
   ·exact⟨i,by omega,h⟩
   ·exact⟨j,by omega,h2⟩
  ·rintro⟨j,h1,h2⟩
   by_cases h:j=i
   ·exact Or.inl (h ▸ h2)
   ·exact Or.inr ⟨j,by omega,h2⟩
theorem hubL_nodup (n:Nat):∀ i,(hubL n i).Nodup
 | 0=>List.nodup_nil
 | i+1=>by
  unfold hubL
  rw[List.nodup_cons,hubL_mem]
  exact⟨fun ⟨j,h1,h2⟩=>by omega,hubL_nodup n i⟩
theorem starLs_rows {s O:List Nat} (hs:IsPerm s) (hO:O.Nodup) (hlt:∀ x,x∈O→x<s.length):∀ i,i≤O.length→RowsF (starLs s O i) (fun y=>y<s.length∨∃ j,j<i∧y=s.length+2*j) (stF s O i)
 | 0,_=>(lists_rowsF hs).congr (fun y=>⟨Or.inl,fun h=>h.elim id fun ⟨j,h,_⟩=>by omega⟩) fun y hy=>by
  rw[stF_old hy,if_neg (by simp)]
 | i+1,hi=>by
  have ih:=starLs_rows hs hO hlt i (by omega)
  have hil:i<O.length:=by omega
  have hx:=hlt (at' O i) (by rw[at'_eq hil];exact List.getElem_mem hil)
  obtain⟨hb1,hb2⟩:=at_invL hs hx
  obtain⟨t,ht⟩:∃ t,at' (invL s) (at' O i)=t:=⟨_,rfl⟩
  rw[ht] at hb1 hb2
  have h1:=ih.after (t:=t) (d:=s.length+2*i) (Or.inl hb2) (fun h=>by rcases h with h|⟨j,h1,h2⟩ <;> omega)
  have e:starLs s O (i+1)=outL (aftF t (s.length+2*i)) (starLs s O i):=by rw[←ht];rfl
  rw[e]
  refine h1.congr (fun y=>?_) fun y hy=>?_
  ·constructor
   ·rintro ((h|⟨j,h1,h2⟩)|h)
    ·exact Or.inl h
    ·exact Or.inr ⟨j,by omega,h2⟩
    ·exact Or.inr ⟨i,by omega,h⟩
   ·rintro (h|⟨j,h1,h2⟩)
    ·exact Or.inl (Or.inl h)
    ·by_cases h3:j=i
     ·exact Or.inr (h3 ▸ h2)
     ·exact Or.inl (Or.inr ⟨j,by omega,h2⟩)
  ·have htv:stF s O i t=at' O i:=by rw[stF_old hb2,hb1,if_neg (not_mem_take hO hil)]
   unfold insF
   rw[htv]
   by_cases h2:y=t
   ·rw[if_pos h2,h2,stF_old hb2,hb1,if_pos ((mem_take_succ hil).2 (Or.inr rfl)),idx_at hO hil]
   ·rw[if_neg h2]
    by_cases h3:y=s.length+2*i
    ·rw[if_pos h3,stF_even (by omega) (by omega),h3,show (s.length+2*i-s.length) / 2=i by omega]
    ·rw[if_neg h3]
     by_cases h4:y<s.length
     ·rw[stF_old h4,stF_old h4]
      by_cases h5:at' s y∈O.take i
      ·rw[if_pos h5,if_pos ((mem_take_succ hil).2 (Or.inl h5))]
      ·rw[if_neg h5,if_neg]
       intro h6
       rcases (mem_take_succ hil).1 h6 with h7|h7
       ·exact h5 h7
       ·exact h2 (hs.inj h4 hb2 (h7.trans hb1.symm))
     ·have h6:(y-s.length) % 2=0:=by
       rcases hy with (h|⟨j,h1,h2⟩)|h <;> omega
      rw[stF_even h4 h6,stF_even h4 h6]
theorem star_rows {s O:List Nat} (hs:IsPerm s) (hO:O.Nodup) (hlt:∀ x,x∈O→x<s.length) (hm:0<O.length):RowsOf (starLs s O O.length ++ [hubL s.length O.length]) (starC s O):=by
 have h1:=(starLs_rows hs hO hlt O.length (Nat.le_refl _)).congr (g:=at' (starC s O)) (fun y=>Iff.rfl) fun y hy=>by
  have hyl:y<s.length+2*O.length:=by rcases hy with h|⟨j,h1,h2⟩ <;> omega
  rw[starC_at hyl]
  unfold starF
  by_cases h4:y<s.length
  ·rw[stF_old h4,if_pos h4,List.take_length]
  ·have h6:(y-s.length) % 2=0:=by
    rcases hy with h|⟨j,h1,h2⟩ <;> omega
   rw[stF_even h4 h6,if_neg h4,if_pos h6]
 refine (h1.more (hubL_nodup _ _) (fun x hx=>?_) (fun j hj=>?_) fun x _=>rfl).rows (fun y=>?_) fun y _=>rfl
 ·obtain⟨j,h2,h3⟩:=(hubL_mem _).1 hx
  rintro (h|⟨k,h4,h5⟩) <;> omega
 ·rw[hubL_length] at hj ⊢
  rw[hubL_at _ hj,starC_at (by omega)]
  unfold starF
  rw[if_neg (by omega),if_neg (by omega),show (s.length+2*(O.length-1-j)+1-s.length) / 2=O.length-1-j by omega]
  unfold nextI
  by_cases h:j+1<O.length
  ·rw[if_pos h,hubL_at _ h,show O.length-1-j+O.length-1=(O.length-1-(j+1))+O.length by omega,Nat.add_mod_right,Nat.mod_eq_of_lt (by omega)]
  ·rw[if_neg h,hubL_at _ hm,show O.length-1-j=0 by omega,Nat.zero_add,Nat.mod_eq_of_lt (by omega)]
   rfl
 ·rw[starC_length,hubL_mem]
  constructor
  ·rintro ((h|⟨j,h1,h2⟩)|⟨j,h1,h2⟩) <;> omega
  ·intro h
   by_cases h1:y<s.length
   ·exact Or.inl (Or.inl h1)
   ·by_cases h2:(y-s.length) % 2=0
    ·exact Or.inl (Or.inr ⟨(y-s.length) / 2,by omega,by omega⟩)
    ·exact Or.inr ⟨(y-s.length) / 2,by omega,by omega⟩
theorem flipL_length (s:List Nat) (d:Nat):(flipL s d).length=s.length:=by
 unfold flipL;dsimp only
 rw[behindL_length,List.length_set,behindL_length];simp
theorem flip_rows {s:List Nat} (hs:IsPerm s) {d m a b:Nat} (hm:d ^^^ 1=m) (hd:d<s.length) (hml:m<s.length)
  (ha:at' (invL s) (at' (phiL s) (at' (phiL s) d))=a) (hb:at' (invL s) (at' (phiL s) (at' (phiL s) m))=b) (hal:a<s.length) (hbl:b<s.length)
  (h1:at' s d≠d) (h2:at' s m≠m) (h3:at' s d≠m) (h4:at' s m≠d) (ha1:a≠d) (ha2:a≠m) (hb1:b≠d) (hb2:b≠m):
  RowsOf (outL (aftF b m) (outL (aftF a d) (outL (witF m) (outL (witF d) (listsL s s.length))))) (flipL s d):=by
 have hdm:d≠m:=fun e=>by rw[←hm,xor_one] at e;split at e <;> omega
 have r1:=((((lists_rowsF hs).without d).without m).after (t:=a) (d:=d) ⟨⟨hal,ha1⟩,ha2⟩ (fun h=>h.1.2 rfl)).after (t:=b) (d:=m) (Or.inl ⟨⟨hbl,hb1⟩,hb2⟩) (fun h=>h.elim (fun h=>h.2 rfl) fun e=>hdm e.symm)
 refine r1.rows (fun y=>?_) fun y hy=>?_
 ·rw[flipL_length]
  constructor
  ·rintro ((h|h)|h)
   ·exact h.1.1
   ·omega
   ·omega
  ·intro h
   by_cases e1:y=m
   ·exact Or.inr e1
   ·by_cases e2:y=d
    ·exact Or.inl (Or.inr e2)
    ·exact Or.inl (Or.inl ⟨⟨h,e2⟩,e1⟩)
 rw[flipL_length] at hy
 obtain⟨hd1,hd2⟩:=at_invL hs hd
 obtain⟨hm1,hm2⟩:=at_invL hs hml
 unfold flipL
 dsimp only
 rw[hm,ha,hb]
 obtain⟨p,hp⟩:∃ p,at' (invL s) d=p:=⟨_,rfl⟩
 obtain⟨q,hq⟩:∃ q,at' (invL s) m=q:=⟨_,rfl⟩
 rw[hp] at hd1 hd2
 rw[hq] at hm1 hm2
 rw[hp,hq]
 obtain⟨L1,hL1⟩:∃ L,(s.set p (at' s d)).set q (at' s m)=L:=⟨_,rfl⟩
 have hl1:L1.length=s.length:=by rw[←hL1];simp
 rw[hL1]
 have hpq:p≠q:=fun e=>hdm (by rw[←hd1,e,hm1])
 have hpd:p≠d:=fun e=>h1 (by rw[←e,hd1,e])
 have hqm:q≠m:=fun e=>h2 (by rw[←e,hm1,e])
 have hpm:p≠m:=fun e=>h4 (by rw[←e,hd1])
 have hqd:q≠d:=fun e=>h3 (by rw[←e,hm1])
 have v1:∀ x,x<s.length→at' L1 x=delF (delF (at' s) d) m x:=fun x hx=>by
  rw[←hL1,at_set (by rw[List.length_set];exact hx),at_set hx]
  have gm:delF (at' s) d m=at' s m:=by unfold delF;rw[if_neg h4]
  unfold delF at gm ⊢
  rw[gm]
  by_cases e1:q=x
  ·have hv:at' s x=m:=by rw[←e1];exact hm1
   rw[if_pos e1,hv,if_neg (show ¬ m=d from fun e=>hdm e.symm),if_pos rfl]
  ·rw[if_neg e1]
   by_cases e2:p=x
   ·have hv:at' s x=d:=by rw[←e2];exact hd1
    rw[if_pos e2,hv,if_pos rfl,if_neg h3]
   ·rw[if_neg e2,if_neg (show ¬ at' s x=d from fun e=>e2 (hs.inj hd2 hx (hd1.trans e.symm))),if_neg (show ¬ at' s x=m from fun e=>e1 (hs.inj hm2 hx (hm1.trans e.symm)))]
 rw[behind_at (by rw[List.length_set,behindL_length,List.length_set,hl1];exact hy)]
 have v2:∀ x,x<s.length→x≠m→at' ((behindL (L1.set d d) d a).set m m) x=insF (delF (delF (at' s) d) m) a d x:=fun x hx hxm=>by
  rw[at_set (by rw[behindL_length,List.length_set,hl1];exact hx),if_neg (fun e=>hxm e.symm),behind_at (by rw[List.length_set,hl1];exact hx)]
  refine insF_congr ?_ fun _ e2=>?_
  ·rw[at_set (by rw[hl1];exact hal),if_neg (show ¬ d=a from fun e=>ha1 e.symm),v1 a hal]
  ·rw[at_set (by rw[hl1];exact hx),if_neg (show ¬ d=x from fun e=>e2 e.symm),v1 x hx]
 have ub:∀ (F:Nat→Nat) (t u x:Nat),insF F t u x=if x=t then u else if x=u then F t else F x:=fun _ _ _ _=>rfl
 rw[ub _ b m y,ub _ b m y,v2 b hbl hb2]
 by_cases e1:y=b
 ·rw[if_pos e1,if_pos e1]
 ·rw[if_neg e1,if_neg e1]
  by_cases e2:y=m
  ·rw[if_pos e2,if_pos e2]
  ·rw[if_neg e2,if_neg e2,v2 y hy e2]
theorem flip_darts {s:List Nat} (hs:IsPerm s) (he:s.length % 2=0) {d m:Nat} (hm:d ^^^ 1=m) (hd:d<s.length) (hml:m<s.length)
  (k1:(orbitL (phiL s) d).length=3) (k2:(orbitL (phiL s) m).length=3) (k3:m∉orbitL (phiL s) d) (k4:d∉orbitL (phiL s) m) (h1:at' s d≠d) (h2:at' s m≠m):
  at' s d≠m∧at' s m≠d∧at' (invL s) (at' (phiL s) (at' (phiL s) d))<s.length∧at' (invL s) (at' (phiL s) (at' (phiL s) m))<s.length ∧
   at' (invL s) (at' (phiL s) (at' (phiL s) d))≠d∧at' (invL s) (at' (phiL s) (at' (phiL s) d))≠m∧at' (invL s) (at' (phiL s) (at' (phiL s) m))≠d∧at' (invL s) (at' (phiL s) (at' (phiL s) m))≠m:=by
 have hp:=phiL_perm hs he
 have hl:(phiL s).length=s.length:=phiL_length s
 have hmm:m ^^^ 1=d:=by rw[←hm,xor_one_one]
 have pd:at' (phiL s) d=at' s m:=by rw[phiL_at hd,hm]
 have pm:at' (phiL s) m=at' s d:=by rw[phiL_at hml,hmm]
 have nofix:∀ x,x<s.length→(orbitL (phiL s) x).length=3→at' (phiL s) x≠x:=fun x hx hl3 e=>by
  obtain⟨c,hc,hcl,ho⟩:=orbitL_map hp (i:=x) (by rw[hl];exact hx)
  have hc3:c=3:=by rw[ho] at hl3;simpa using hl3
  have hn:=orbitL_nodup hp (i:=x) (by rw[hl];exact hx)
  rw[ho,hc3] at hn
  have e1:it (phiL s) 0 x=x:=rfl
  have e2:it (phiL s) 1 x=at' (phiL s) x:=rfl
  simp[List.range_succ,e1,e2,e] at hn
 have inO:∀ x,x<s.length→∀ y,y<s.length→y∈orbitL (phiL s) x→at' (phiL s) y∈orbitL (phiL s) x:=fun x hx y hy hm=>(hp.orbit_next (by rw[hl];exact hx) (by rw[hl];exact hy)).2 hm
 have self:∀ x,x∈orbitL (phiL s) x:=fun x=>List.mem_cons_self ..
 have hfd:=inO d hd d hd (self d)
 have hfm:=inO m hml m hml (self m)
 have u1:at' (phiL s) d<s.length:=by rw[←hl];exact hp.lt (by rw[hl];exact hd)
 have u2:at' (phiL s) m<s.length:=by rw[←hl];exact hp.lt (by rw[hl];exact hml)
 have back:∀ x,x<s.length→at' (invL s) (at' (phiL s) x)=x ^^^ 1:=fun x hx=>by
  rw[phiL_at hx,invL_at hs (xor_one_lt he hx)]
 rw[back _ u1,back _ u2]
 refine⟨fun e=>nofix m hml k2 (by rw[pm,e]),fun e=>nofix d hd k1 (by rw[pd,e]),xor_one_lt he u1,xor_one_lt he u2,fun e=>?_,fun e=>?_,fun e=>?_,fun e=>?_⟩
 ·have:at' (phiL s) d=m:=by rw[←xor_one_one (at' (phiL s) d),e,hm]
  rw[this] at hfd
  exact k3 hfd
 ·have:at' (phiL s) d=d:=by rw[←xor_one_one (at' (phiL s) d),e,hmm]
  exact nofix d hd k1 this
 ·have:at' (phiL s) m=m:=by rw[←xor_one_one (at' (phiL s) m),e,hm]
  exact nofix m hml k2 this
 ·have:at' (phiL s) m=d:=by rw[←xor_one_one (at' (phiL s) m),e,hmm]
  rw[this] at hfm
  exact k4 hfm
end
section
open Go.RowKit
set_option linter.unusedVariables false
theorem nodup_len {v:List Nat} (hn:v.Nodup) {N:Nat} (h:∀ x,x∈v→x<N):v.length≤N:=by
 by_cases hl:v.length≤N
 ·exact hl
 ·obtain⟨a,b,hab,hb,e⟩:=pigeon N (fun k=>at' v k) (fun k hk=>h _ (by rw[at'_eq (by omega)];exact List.getElem_mem _))
  simp only[at'_eq (show a<v.length by omega),at'_eq (show b<v.length by omega)] at e
  have:=nodup_inj hn (by omega) (by omega) e
  omega
theorem outL_length (f:Nat→List Nat) (xss:List (List Nat)):(outL f xss).length=xss.length:=by unfold outL;rw[List.length_map]
theorem RowsF.sm {xss:List (List Nat)} {D:Nat→Prop} {f:Nat→Nat} (h:RowsF xss D f) {N:Nat} (hD:∀ y,D y→y<N) (hN:N≤100000) (hl:xss.length≤100000):RowsSm xss:=by
 refine⟨hl,fun i hi=>?_⟩
 have hm:xss.getD i []∈xss:=by simp[List.getD,hi]
 have hlt:∀ x,x∈xss.getD i []→x<N:=fun x hx=>hD x ((h.mem x).1 (List.mem_flatten.2 ⟨_,hm,hx⟩))
 exact⟨Nat.le_trans (nodup_len (h.rowNd hm) hlt) hN,fun x hx=>by have:=hlt x hx;omega⟩
theorem RowsOf.sm {xss:List (List Nat)} {T:List Nat} (h:RowsOf xss T) (hN:T.length≤100000) (hl:xss.length≤100000):RowsSm xss:=
 RowsF.sm (xss:=xss) (D:=(· < T.length)) (f:=at' T) ⟨h.nd,h.mem,fun v hv=>h.next v hv⟩ (fun y hy=>hy) hN hl
theorem RowsOf.below {xss:List (List Nat)} {T:List Nat} (h:RowsOf xss T):∀ i,i<xss.length→∀ x,x∈xss.getD i []→x<T.length:=fun i hi x hx=>
 (h.mem x).1 (List.mem_flatten.2 ⟨xss.getD i [],by simp[List.getD,hi],hx⟩)
theorem lists_sm {s:List Nat} (hs:IsPerm s) (hn:s.length≤100000):RowsSm (listsL s s.length):=(lists_rows hs).sm hn (Nat.le_trans (listsL_len s _) hn)
theorem OwnI.lit1 {R:Reg} {W:World} {B:Nat} (hI:Inv R W) (hB:B≤W.heap.size) (y:Int):OwnI R B 3 (W.alloc (.cells #[.int .i64 y] 3)) (.slice (some ⟨W.heap.size,0,none⟩) 1 1) [y]:=by
 have h:=World.ownsRow_lit (base:=B) (e:=3) (size:=1) W #[.int .i64 y] 1 hB (by simp[maxLen]) rfl
 refine⟨by simpa using h,fun k hk=>?_⟩
 simp only[Value.ownBlock,Option.some.injEq] at hk
 rw[←hk]
 exact hI.none_of_ge (Nat.le_refl _)
theorem OwnI.lit2 {R:Reg} {W:World} {B:Nat} (hI:Inv R W) (hB:B≤W.heap.size) (x y:Int):OwnI R B 3 (W.alloc (.cells #[.int .i64 x,.int .i64 y] 3)) (.slice (some ⟨W.heap.size,0,none⟩) 2 2) [x,y]:=by
 have h:=World.ownsRow_lit (base:=B) (e:=3) (size:=1) W #[.int .i64 x,.int .i64 y] 2 hB (by simp[maxLen]) rfl
 refine⟨by simpa using h,fun k hk=>?_⟩
 simp only[Value.ownBlock,Option.some.injEq] at hk
 rw[←hk]
 exact hI.none_of_ge (Nat.le_refl _)
theorem rowOk_lit1 {R:Reg} {w:World} {B n:Nat} {v:Value} {vs:List Value} (hI:Inv R w) {y:Int} {x:Nat} (hy:y=(x:Int)) (hO:OwnV R B 25 1 w v n vs):RowOk R (w.alloc (.cells #[.int .i64 y] 3)) (fun k=>v.ownBlock=some k) (.slice (some ⟨w.heap.size,0,none⟩) 1 1) [x]:=by
 subst hy
 exact rowOk_new (N:=1) (F:=[x]) (OwnI.lit1 hI (Nat.le_refl _) (x:Int)) rfl hO
theorem rowOk_lit2 {R:Reg} {w:World} {B n:Nat} {v:Value} {vs:List Value} (hI:Inv R w) {x' y':Int} {x y:Nat} (hx:x'=(x:Int)) (hy:y'=(y:Int)) (hO:OwnV R B 25 1 w v n vs):RowOk R (w.alloc (.cells #[.int .i64 x',.int .i64 y'] 3)) (fun k=>v.ownBlock=some k) (.slice (some ⟨w.heap.size,0,none⟩) 2 2) [x,y]:=by
 subst hx hy
 exact rowOk_new (N:=2) (F:=[x,y]) (OwnI.lit2 hI (Nat.le_refl _) (x:Int) (y:Int)) rfl hO
theorem one_cell_next (w:World) (L:Obj) (u:Value):∀ j x,[u][j]?=some x→((w.alloc L).alloc (.cells #[u] 25)).cell? ((⟨w.heap.size+1,0,none⟩:Addr).add j)=some x:=by
 have h:=one_cell (w.alloc L) u
 rw[World.size_alloc] at h
 exact h
theorem RowsAt.mono {R:Reg} {B B':Nat} {w:World} {v:Value} {xss:List (List Nat)} (h:RowsAt R B w v xss) (hB:B'≤B):RowsAt R B' w v xss:=by
 obtain⟨a,c,vs,e,h1,h2⟩:=h
 exact⟨a,c,vs,e,h1.mono hB,h2⟩
theorem starLs_len (s O:List Nat):∀ i,(starLs s O i).length=(listsL s s.length).length
 | 0=>rfl
 | i+1=>by unfold starLs;rw[outL_length];exact starLs_len s O i
theorem RowOk.nil (R:Reg) (w:World) (X:Nat→Prop):RowOk R w X (.slice none 0 0) []:=
 ⟨none,0,rfl,(OwnI.nil R w.heap.size 3 w).free,fun k hk=>by simp[Value.ownBlock] at hk⟩
section
variable {a : Act} {ops : Array Oper} {Q : Exit → Act → World → Prop} {o : Oper} {rest : List Oper}
theorem wpList_app_none {w:World} (hgd:o.guard=none) (s x:Operand)
  (ho:o.op=.call { callee:=.builtin .append,args:=#[s,x],argTypes:=#[25,25] })
  {a1:Option Addr} {n c:Nat} {a2:Option Addr} {c2:Nat} (hs:a.eval s=.slice a1 n c) (hx:a.eval x=.slice a2 0 c2) (hc:n≤c)
  (h:wpList Tryz.prog ops Q rest (a.put o.dst (.slice a1 n c)) w):wpList Tryz.prog ops Q (o :: rest) a w:=by
 have hr:=run_app_nil o.type w a1 n c a2 c2 hc
 refine wpList_plain hgd fun K hK=>?_
 unfold Oper.wp execOp
 simp only[ho,resolve,invoke,builtin,Sem.run_bind,Sem.run_pure,Result.andThen_ok,List.map_toArray,List.map_cons,List.map_nil,hs,hx,hr]
 exact hK _ _ h
end
def RetDo (R:Reg) (w:World) (L:List Nat) (root lone:Int) (z:Ending) (w':World):Prop:=
 ∃ a c,z=.returned (.tuple #[refV (.slice a L.length c) root lone,.int .i64 0])∧Ev R w R w'∧OwnI R w.heap.size 3 w' (.slice a L.length c) (toI L)
end
section
open Go.RowKit
set_option linter.unusedVariables false
set_option maxRecDepth 100000 in
set_option maxHeartbeats 2000000 in
theorem do_leaf (R:Reg) (w:World) (hI:Inv R w) (v:Value) (s:List Nat) (root lone:Int) (hv:FreeI R w v (toI s)) (hS:IsPerm s) (hn:s.length≤99000) (hev:s.length % 2=0) (d:Nat) (hd:d<s.length) (e:Int):
  Calls Tryz.prog 75 #[refV v root lone,.int .i64 0,.int .i64 (d:Int),.int .i64 e] w (RetDo R w (leafL s d) root lone):=by
 obtain⟨a0,c0,rfl,_⟩:=hv.open
 rw[toI_length] at hv ⊢
 unfold refV
 have hp:=phiL_perm hS hev
 have hpl:=phiL_length s
 have hdm:=xor_one_lt hev hd
 have hmm:d ^^^ 1<s.length:=hdm
 have HPh:=Lib.hid (fun w' (he:Ev R w R w')=>rphi_any R w' he.inv _ s root lone (hv.ev he) (by omega) hev)
 have HNm:=Lib.hid (fun w' v' (hI':Inv R w') (h:FreeI R w' v' (toI (phiL s)))=>rnames_any R w' hI' v' (phiL s) h hp (by omega))
 have HIv:=Lib.hid (fun w' (he:Ev R w R w')=>rinverse_any R w' he.inv _ s (hv.ev he) hS (by omega))
 have HMt:=Lib.hid (fun w'=>rmate_any w' d (by omega))
 have HLs:=Lib.hid (fun w' (he:Ev R w R w')=>r23lists_any R w' he.inv _ s root lone (hv.ev he) hS (by omega))
 have hsm:=lists_sm hS (by omega)
 have hll:=Nat.le_trans (listsL_len s s.length) (Nat.le_trans hn (by decide:99000≤99000))
 have hivl:=invL_length s
 have he0:Ev R w R (w.alloc (.cells #[.slice a0 s.length c0,.int .i64 root,.int .i64 lone] 27)):=(Ev.refl hI).alloc _
 have he01:Ev R (w.alloc (.cells #[.slice a0 s.length c0,.int .i64 root,.int .i64 lone] 27)) R ((w.alloc (.cells #[.slice a0 s.length c0,.int .i64 root,.int .i64 lone] 27)).alloc (.cells #[.slice none 0 0,.int .i64 0,.int .i64 0] 27)):=(Ev.refl he0.inv).alloc _
 have he1:Ev R w R ((w.alloc (.cells #[.slice a0 s.length c0,.int .i64 root,.int .i64 lone] 27)).alloc (.cells #[.slice none 0 0,.int .i64 0,.int .i64 0] 27)):=he0.trans he01
 have hn1:R w.heap.size=none:=hI.none_of_ge (Nat.le_refl _)
 have hB1:=fun w' (h:Ev R ((w.alloc (.cells #[.slice a0 s.length c0,.int .i64 root,.int .i64 lone] 27)).alloc (.cells #[.slice none 0 0,.int .i64 0,.int .i64 0] 27)) R w')=>(he01.trans h).boxC3 (heap_alloc_new w _) hn1
 have hB2:=fun w' (h:Ev R ((w.alloc (.cells #[.slice a0 s.length c0,.int .i64 root,.int .i64 lone] 27)).alloc (.cells #[.slice none 0 0,.int .i64 0,.int .i64 0] 27)) R w')=>h.boxC3 (heap_alloc_new (w.alloc (.cells #[.slice a0 s.length c0,.int .i64 root,.int .i64 lone] 27)) (.cells #[.slice none 0 0,.int .i64 0,.int .i64 0] 27)) (he0.inv.none_of_ge (Nat.le_refl _))
 have hza:((w.alloc (.cells #[.slice a0 s.length c0,.int .i64 root,.int .i64 lone] 27)).alloc (.cells #[.slice none 0 0,.int .i64 0,.int .i64 0] 27)).heap.size=w.heap.size+2:=by simp
 rw[World.size_alloc] at hB2
 obtain⟨n,hnn⟩:∃ n,s.length=n:=⟨_,rfl⟩
 obtain⟨m,hm⟩:∃ m,d ^^^ 1=m:=⟨_,rfl⟩
 obtain⟨xss,hxs⟩:∃ x,listsL s s.length=x:=⟨_,rfl⟩
 have HXs:=Lib.hid hxs
 rw[hnn] at hxs
 rw[hm] at HMt hmm
 rw[HXs.out] at hsm hll
 rw[hnn,hxs] at HLs
 rw[hnn] at HPh HIv he0 he01 he1 hB1 hB2 hza hpl hivl hn hd hev hmm ⊢
 have hrw0:=leaf_rows hS (d:=d) (by omega)
 rw[hnn,hxs] at hrw0
 have HRw:=Lib.hid hrw0
 have HTl:=Lib.hid (show (leafL s d).length=n+2 by rw[leafL_length,hnn])
 clear hrw0
 have HNn:=Lib.hid hnn
 have HMe:=Lib.hid hm
 have HS:=Lib.hid hS
 have HSm:=Lib.hid hsm
 have HLl:=Lib.hid hll
 have HHv:=Lib.hid hv
 clear hI hv hS hnn hm hsm hll hxs hp
 go_enter Tryz.func75,Tryz.ntmps75
 go_upto_region 1 with fail
 obtain⟨wa,hwa⟩:∃ wa,(w.alloc (.cells #[.slice a0 n c0,.int .i64 root,.int .i64 lone] 27)).alloc (.cells #[.slice none 0 0,.int .i64 0,.int .i64 0] 27)=wa:=⟨_,rfl⟩
 try rw[hwa] at he1 hB1 hB2 hza ⊢
 have HB1:=Lib.hid (fun w' (h:Ev R wa R w')=>boxC_cells (hB1 w' h).1)
 have HB2:=Lib.hid hB2
 have HZa:=Lib.hid hza
 have HEa:=Lib.hid he1
 obtain⟨x0,x1,x2,_⟩:=HB1.out _ (Ev.refl he1.inv)
 have hdr:decide ((d:Int)<0)=false:=by simp
 have hdr2:decide ((n:Int)≤(d:Int))=false:=by simp;omega
 clear he0 he01 he1 hB1 hB2 hza hwa hn1
 go_wp2_with fail
 refine (HPh.out _ HEa.out).mono ?_
 rintro z w2 ⟨v2,rfl,he2,ho2⟩
 obtain⟨a2,c2,rfl,_⟩:=ho2.ints.open
 rw[toI_length,hpl] at ho2 ⊢
 have HE2:=Lib.hid he2
 have HO2:=Lib.hid ho2
 clear he2 ho2 x0 x1 x2
 go_wp2_with fail
 refine (HNm.out _ _ HE2.out.inv HO2.out.free).mono ?_
 rintro z w3 ⟨v3,rfl,he3,ho3⟩
 obtain⟨a3,c3,rfl,_⟩:=ho3.ints.open
 rw[namesL_length,hpl] at ho3 ⊢
 have HE3:=Lib.hid (HE2.out.trans he3)
 have HO3:=Lib.hid ho3
 have HO2:=Lib.hid (HO2.out.ev he3)
 obtain⟨x0,x1,x2,_⟩:=HB1.out w3 HE3.out
 clear he3 ho3
 go_wp2_with fail
 refine (HIv.out _ (HEa.out.trans HE3.out)).mono ?_
 rintro z w4 ⟨v4,rfl,he4,ho4⟩
 obtain⟨a4,c4,rfl,_⟩:=ho4.ints.open
 rw[toI_length,hivl] at ho4 ⊢
 have HE4:=Lib.hid (HE3.out.trans he4)
 have HO4:=Lib.hid ho4
 have HO2:=Lib.hid (HO2.out.ev he4)
 have HO3:=Lib.hid (HO3.out.ev he4)
 clear he4 ho4 x0 x1 x2
 go_wp2_with fail
 refine (HMt.out _).mono ?_
 rintro z w4' ⟨rfl,rfl⟩
 obtain⟨x0,x1,x2,_⟩:=HB1.out w4 HE4.out
 go_wp2_with fail
 refine (HLs.out _ (HEa.out.trans HE4.out)).mono ?_
 rintro z w5 ⟨a5,c5,vs5,rfl,he5,hov5,hrw5⟩
 have hR5:RowsAt R w4.heap.size w5 (.slice a5 xss.length c5) xss:=⟨a5,c5,vs5,rfl,hov5,hrw5⟩
 have HE5:=Lib.hid (HE4.out.trans he5)
 have HR5:=Lib.hid hR5
 have HO2:=Lib.hid (HO2.out.ev he5)
 have HO3:=Lib.hid (HO3.out.ev he5)
 have HO4:=Lib.hid (HO4.out.ev he5)
 obtain⟨l5,hl5⟩:∃ l,xss.length=l:=⟨_,rfl⟩
 try rw[hl5]
 rw[hl5] at HR5
 have HL5:=Lib.hid hl5
 have HLb:=Lib.hid (show l5≤99000 by rw[←hl5];exact HLl.out)
 clear he5 hov5 hrw5 hR5 hl5 x0 x1 x2
 go_wp2_with fail
 refine (after_any R _ HE5.out.inv _ _ xss HR5.out HSm.out d n (by omega) (by omega)).mono ?_
 rintro z w6 ⟨a6,c6,vs6,rfl,he6,hov6,hrw6⟩
 have hL6:(outL (aftF d n) xss).length=l5:=(outL_length _ _).trans HL5.out
 rw[hL6] at hov6 hrw6 ⊢
 have HE6:=Lib.hid (HE5.out.trans he6)
 have HV6:=Lib.hid hov6
 have HW6:=Lib.hid hrw6
 have HL6:=Lib.hid hL6
 have HSz6:=Lib.hid he6.size
 clear he6 hov6 hrw6 hL6
 have hE8:Ev R w6 R (w6.alloc (.cells #[.int .i64 ((n:Int)+1)] 3)):=(Ev.refl HE6.out.inv).alloc _
 have hF8:Ev R (w6.alloc (.cells #[.int .i64 ((n:Int)+1)] 3)) R ((w6.alloc (.cells #[.int .i64 ((n:Int)+1)] 3)).alloc (.cells #[.slice (some ⟨w6.heap.size,0,none⟩) 1 1] 25)):=(Ev.refl hE8.inv).alloc _
 have HE8:=Lib.hid (HE6.out.trans (hE8.trans hF8))
 have HV8:=Lib.hid (HV6.out.ev (hE8.trans hF8))
 have HW8:=Lib.hid (HW6.out.ev (hE8.trans hF8))
 have HRo8:=Lib.hid ((rowOk_lit1 (x:=n+1) HE6.out.inv (y:=(n:Int)+1) (by omega) HV6.out).ev hF8)
 clear hE8 hF8
 go_wp2_with (at_builtin;refine wpList_app_row 134 25 1 24 nilS Tryz.underlying134 islice_info rfl (by decide) (by decide) rfl _ _ rfl HV8.out rfl ⟨w6.heap.size+1,0,none⟩ 1 1 [.slice (some ⟨w6.heap.size,0,none⟩) 1 1] rfl ?z0 ?z1 ?z2 ?z3 ?z4 ?z5 ?_)
 try (case z0=>first|rfl|simp)
 case z1=>exact one_cell_next _ _ _
 case z2=>exact one_one _ _ _
 case z3=>have:=HLb.out;omega
 case z4=>have:=HSz6.out;simp;omega
 case z5=>exact fun q hq=>HE8.out.inv.none_of_ge hq
 intro v8' w8 ho8 hg8 hs8
 have hra8:=rows_next (xss:=outL (aftF d n) xss) HL6.out.symm HW8.out HRo8.out ho8 hg8 (fun q hq=>(hs8 q hq).imp id (fun h=>by first|exact h|simpa using h))
 have HEE8:=Lib.hid (HE8.out.appV HV8.out HE5.out.size hg8)
 have HRA8:=Lib.hid hra8
 clear hra8 ho8 hg8 hs8
 obtain⟨x0,x1,x2,_⟩:=HB1.out w8 HEE8.out
 go_wp2_with fail
 refine (r23made_any R _ HEE8.out.inv _ _ _ HRA8.out (HRw.out.sm (by have:=HTl.out;omega) (by have:=HLb.out;have:=HL5.out;simp[outL_length];omega)) _ HRw.out.lens HRw.out.below (by have:=HTl.out;omega) root lone).mono ?_
 rintro z w8e ⟨af,cf,rfl,hef,hof⟩
 rw[HRw.out.lay] at hof ⊢
 have HEf:=Lib.hid (HEE8.out.trans hef)
 have HOf:=Lib.hid hof
 have HSf:=Lib.hid HEE8.out.size
 clear hef hof x0 x1 x2
 obtain⟨y0,y1,y2,yz⟩:=boxC_cells (HB2.out _ HEf.out).1
 obtain⟨lf,hlf⟩:∃ l,(leafL s d).length=l:=⟨_,rfl⟩
 rw[hlf] at HOf
 try rw[hlf]
 have HLF:=Lib.hid hlf
 clear hlf
 simp only[refV]
 go_wp2_with fail
 have hb3:=set3 (x:=.slice af lf cf) (y:=.int .i64 root) (z:=.int .i64 lone) (HB2.out _ HEf.out).1
 obtain⟨u0,u1,u2,_⟩:=boxC_cells hb3
 have hn2:=(HB2.out _ HEf.out).2
 have hne:∀ (o:Nat),(Value.slice af lf cf).ownBlock≠some (⟨w.heap.size+1,o,none⟩:Addr).block:=fun o e'=>by
  have h1:=(HOf.out.lt _ e').1
  have h2:=HZa.out
  have h4:=HSf.out
  have h3:(⟨w.heap.size+1,o,none⟩:Addr).block=w.heap.size+1:=rfl
  omega
 try simp only[Exit.inBlock,Exit.then]
 refine bodyPost_ret (v:=.tuple #[refV (.slice af lf cf) root lone,.int .i64 0]) ?_ rfl ⟨af,cf,by rw[HLF.out],?_,?_⟩
 ·simp[results,Tryz.results75,go_sem,u0,u1,u2,refV]
 ·exact (((HEa.out.trans HEf.out).setCell (by simp) hn2 _).setCell (by simp) hn2 _).setCell (by simp) hn2 _
 ·rw[HLF.out]
  exact (((HOf.out.mono (by have:=HSf.out;have:=HZa.out;omega)).setCell (hne 0) _).setCell (hne 1) _).setCell (hne 2) _
end
section
open Go.RowKit
set_option linter.unusedVariables false
set_option maxRecDepth 100000 in
set_option maxHeartbeats 2000000 in
theorem do_chord (R:Reg) (w:World) (hI:Inv R w) (v:Value) (s:List Nat) (root lone:Int) (hv:FreeI R w v (toI s)) (hS:IsPerm s) (hn:s.length≤99000) (hev:s.length % 2=0) (d:Nat) (hd:d<s.length) (e:Nat) (he:e<s.length):
  Calls Tryz.prog 75 #[refV v root lone,.int .i64 1,.int .i64 (d:Int),.int .i64 (e:Int)] w (fun z w2=>(nth (namesL (phiL s)) (at' s d)=nth (namesL (phiL s)) (at' s e)∧RetDo R w (chordL s d e) root lone z w2)∨(nth (namesL (phiL s)) (at' s d)≠nth (namesL (phiL s)) (at' s e)∧z=.returned (.tuple #[refV v root lone,.int .i64 8])∧Ev R w R w2)):=by
 obtain⟨a0,c0,rfl,_⟩:=hv.open
 rw[toI_length] at hv ⊢
 unfold refV
 have hp:=phiL_perm hS hev
 have hpl:=phiL_length s
 have hdm:=xor_one_lt hev hd
 have hmm:d ^^^ 1<s.length:=hdm
 obtain⟨bS,oS,rfl,_⟩:=hv.at hd
 have HRd:=Lib.hid (fun w' (h:Ev R w R w') i (hi:i<s.length)=>(by
  obtain⟨b,o,e1,h1⟩:=(hv.ev h).at hi
  cases e1
  exact h1:w'.cell? ⟨bS,oS+i,none⟩=some (.int .i64 ((at' s i:Nat):Int))))
 have hsd:at' s d<s.length:=hS.lt hd
 have hse:at' s e<s.length:=hS.lt he
 have her:decide ((e:Int)<0)=false:=by simp
 have her2:decide ((s.length:Int)≤(e:Int))=false:=by simp;omega
 have HPh:=Lib.hid (fun w' (he:Ev R w R w')=>rphi_any R w' he.inv _ s root lone (hv.ev he) (by omega) hev)
 have HNm:=Lib.hid (fun w' v' (hI':Inv R w') (h:FreeI R w' v' (toI (phiL s)))=>rnames_any R w' hI' v' (phiL s) h hp (by omega))
 have HIv:=Lib.hid (fun w' (he:Ev R w R w')=>rinverse_any R w' he.inv _ s (hv.ev he) hS (by omega))
 have HMt:=Lib.hid (fun w'=>rmate_any w' d (by omega))
 have HLs:=Lib.hid (fun w' (he:Ev R w R w')=>r23lists_any R w' he.inv _ s root lone (hv.ev he) hS (by omega))
 have hsm:=lists_sm hS (by omega)
 have hll:=Nat.le_trans (listsL_len s s.length) (Nat.le_trans hn (by decide:99000≤99000))
 have hivl:=invL_length s
 have he0:Ev R w R (w.alloc (.cells #[.slice (some ⟨bS,oS,none⟩) s.length c0,.int .i64 root,.int .i64 lone] 27)):=(Ev.refl hI).alloc _
 have he01:Ev R (w.alloc (.cells #[.slice (some ⟨bS,oS,none⟩) s.length c0,.int .i64 root,.int .i64 lone] 27)) R ((w.alloc (.cells #[.slice (some ⟨bS,oS,none⟩) s.length c0,.int .i64 root,.int .i64 lone] 27)).alloc (.cells #[.slice none 0 0,.int .i64 0,.int .i64 0] 27)):=(Ev.refl he0.inv).alloc _
 have he1:Ev R w R ((w.alloc (.cells #[.slice (some ⟨bS,oS,none⟩) s.length c0,.int .i64 root,.int .i64 lone] 27)).alloc (.cells #[.slice none 0 0,.int .i64 0,.int .i64 0] 27)):=he0.trans he01
 have hn1:R w.heap.size=none:=hI.none_of_ge (Nat.le_refl _)
 have hB1:=fun w' (h:Ev R ((w.alloc (.cells #[.slice (some ⟨bS,oS,none⟩) s.length c0,.int .i64 root,.int .i64 lone] 27)).alloc (.cells #[.slice none 0 0,.int .i64 0,.int .i64 0] 27)) R w')=>(he01.trans h).boxC3 (heap_alloc_new w _) hn1
 have hB2:=fun w' (h:Ev R ((w.alloc (.cells #[.slice (some ⟨bS,oS,none⟩) s.length c0,.int .i64 root,.int .i64 lone] 27)).alloc (.cells #[.slice none 0 0,.int .i64 0,.int .i64 0] 27)) R w')=>h.boxC3 (heap_alloc_new (w.alloc (.cells #[.slice (some ⟨bS,oS,none⟩) s.length c0,.int .i64 root,.int .i64 lone] 27)) (.cells #[.slice none 0 0,.int .i64 0,.int .i64 0] 27)) (he0.inv.none_of_ge (Nat.le_refl _))
 have hza:((w.alloc (.cells #[.slice (some ⟨bS,oS,none⟩) s.length c0,.int .i64 root,.int .i64 lone] 27)).alloc (.cells #[.slice none 0 0,.int .i64 0,.int .i64 0] 27)).heap.size=w.heap.size+2:=by simp
 rw[World.size_alloc] at hB2
 obtain⟨n,hnn⟩:∃ n,s.length=n:=⟨_,rfl⟩
 obtain⟨m,hm⟩:∃ m,d ^^^ 1=m:=⟨_,rfl⟩
 obtain⟨xss,hxs⟩:∃ x,listsL s s.length=x:=⟨_,rfl⟩
 have HXs:=Lib.hid hxs
 rw[hnn] at hxs
 rw[hm] at HMt hmm
 rw[HXs.out] at hsm hll
 rw[hnn,hxs] at HLs
 rw[hnn] at HPh HIv he0 he01 he1 hB1 hB2 hza hpl hivl hn hd hev hmm ⊢
 have hrw0:=chord_rows hS (d:=d) (e:=e) (by omega) (by omega)
 rw[hnn,hxs] at hrw0
 rw[hnn] at HRd hsd hse her2 he
 have HRw:=Lib.hid hrw0
 have HTl:=Lib.hid (show (chordL s d e).length=n+2 by rw[chordL,behindL_length,leafL_length,hnn])
 obtain⟨pd,hpd⟩:∃ p,at' s d=p:=⟨_,rfl⟩
 obtain⟨pe,hpe⟩:∃ p,at' s e=p:=⟨_,rfl⟩
 have HPd:=Lib.hid hpd
 have HPe:=Lib.hid hpe
 rw[hpd] at hsd
 rw[hpe] at hse
 rw[hpd,hpe]
 obtain⟨NF,hNF⟩:∃ N,namesL (phiL s)=N:=⟨_,rfl⟩
 have HNF:=Lib.hid hNF
 rw[hNF] at HNm ⊢
 have hnfl:NF.length=n:=by rw[←hNF,namesL_length,hpl]
 have HNl:=Lib.hid hnfl
 obtain⟨qd,hqd⟩:∃ q,nth NF pd=q:=⟨_,rfl⟩
 obtain⟨qe,hqe⟩:∃ q,nth NF pe=q:=⟨_,rfl⟩
 rw[hqd,hqe]
 have HQd:=Lib.hid hqd
 have HQe:=Lib.hid hqe
 clear hrw0 hpd hpe hNF hnfl hqd hqe
 have HNn:=Lib.hid hnn
 have HMe:=Lib.hid hm
 have HS:=Lib.hid hS
 have HSm:=Lib.hid hsm
 have HLl:=Lib.hid hll
 have HHv:=Lib.hid hv
 clear hI hv hS hnn hm hsm hll hxs hp
 go_enter Tryz.func75,Tryz.ntmps75
 go_upto_region 1 with fail
 obtain⟨wa,hwa⟩:∃ wa,(w.alloc (.cells #[.slice (some ⟨bS,oS,none⟩) n c0,.int .i64 root,.int .i64 lone] 27)).alloc (.cells #[.slice none 0 0,.int .i64 0,.int .i64 0] 27)=wa:=⟨_,rfl⟩
 try rw[hwa] at he1 hB1 hB2 hza ⊢
 have HB1:=Lib.hid (fun w' (h:Ev R wa R w')=>boxC_cells (hB1 w' h).1)
 have HB2:=Lib.hid hB2
 have HZa:=Lib.hid hza
 have HEa:=Lib.hid he1
 obtain⟨x0,x1,x2,_⟩:=HB1.out _ (Ev.refl he1.inv)
 have hdr:decide ((d:Int)<0)=false:=by simp
 have hdr2:decide ((n:Int)≤(d:Int))=false:=by simp;omega
 clear he0 he01 he1 hB1 hB2 hza hwa hn1
 go_wp2_with fail
 refine (HPh.out _ HEa.out).mono ?_
 rintro z w2 ⟨v2,rfl,he2,ho2⟩
 obtain⟨a2,c2,rfl,_⟩:=ho2.ints.open
 rw[toI_length,hpl] at ho2 ⊢
 have HE2:=Lib.hid he2
 have HO2:=Lib.hid ho2
 clear he2 ho2 x0 x1 x2
 go_wp2_with fail
 refine (HNm.out _ _ HE2.out.inv HO2.out.free).mono ?_
 rintro z w3 ⟨v3,rfl,he3,ho3⟩
 obtain⟨a3,c3,rfl,_⟩:=ho3.ints.open
 rw[HNl.out] at ho3 ⊢
 have HE3:=Lib.hid (HE2.out.trans he3)
 have HO3:=Lib.hid ho3
 have HO2:=Lib.hid (HO2.out.ev he3)
 obtain⟨x0,x1,x2,_⟩:=HB1.out w3 HE3.out
 clear he3 ho3
 go_wp2_with fail
 refine (HIv.out _ (HEa.out.trans HE3.out)).mono ?_
 rintro z w4 ⟨v4,rfl,he4,ho4⟩
 obtain⟨a4,c4,rfl,_⟩:=ho4.ints.open
 rw[toI_length,hivl] at ho4 ⊢
 have HE4:=Lib.hid (HE3.out.trans he4)
 have HO4:=Lib.hid ho4
 have HO2:=Lib.hid (HO2.out.ev he4)
 have HO3:=Lib.hid (HO3.out.ev he4)
 clear he4 ho4 x0 x1 x2
 go_wp2_with fail
 refine (HMt.out _).mono ?_
 rintro z w4' ⟨rfl,rfl⟩
 obtain⟨x0,x1,x2,_⟩:=HB1.out w4 HE4.out
 go_wp2_with fail
 refine (HLs.out _ (HEa.out.trans HE4.out)).mono ?_
 rintro z w5 ⟨a5,c5,vs5,rfl,he5,hov5,hrw5⟩
 have hR5:RowsAt R w4.heap.size w5 (.slice a5 xss.length c5) xss:=⟨a5,c5,vs5,rfl,hov5,hrw5⟩
 have HE5:=Lib.hid (HE4.out.trans he5)
 have HR5:=Lib.hid hR5
 have HO2:=Lib.hid (HO2.out.ev he5)
 have HO3:=Lib.hid (HO3.out.ev he5)
 have HO4:=Lib.hid (HO4.out.ev he5)
 obtain⟨l5,hl5⟩:∃ l,xss.length=l:=⟨_,rfl⟩
 try rw[hl5]
 rw[hl5] at HR5
 have HL5:=Lib.hid hl5
 have HLb:=Lib.hid (show l5≤99000 by rw[←hl5];exact HLl.out)
 clear he5 hov5 hrw5 hR5 hl5 x0 x1 x2
 go_wp2_with fail
 have hrd:=HRd.out _ (HEa.out.trans HE5.out)
 have hcd:=hrd d hd
 have hce:=hrd e he
 rw[HPd.out] at hcd
 rw[HPe.out] at hce
 obtain⟨g3,rfl,_,_,hcf,_⟩:=HO3.out.headAt HNl.out hsd
 obtain⟨g3',e3',_,_,hcg,_⟩:=HO3.out.headAt HNl.out hse
 cases e3'
 clear hrd
 obtain⟨x0,x1,x2,_⟩:=HB1.out w5 HE5.out
 rw[HQd.out] at hcf
 rw[HQe.out] at hcg
 have hE5d:Ev R w5 R w5.drew:=(Ev.refl HE5.out.inv).drew
 have HE5d:=Lib.hid hE5d
 by_cases hq:qd=qe
 ·have hqb:(qd != qe)=false:=by simp[hq]
  have HQ:=Lib.hid hq
  clear hq hE5d
  go_region
  all_goals go_wp2_with fail
  have HEE5:=Lib.hid (HE5.out.trans HE5d.out)
  have HRd5:=Lib.hid (HR5.out.ev HE5d.out)
  clear hqb x0 x1 x2 hcd hce hcf hcg
  refine (after_any R _ HEE5.out.inv _ _ xss HRd5.out HSm.out d n (by omega) (by omega)).mono ?_
  rintro z w6 ⟨a6,c6,vs6,rfl,he6,hov6,hrw6⟩
  have hL6:(outL (aftF d n) xss).length=l5:=(outL_length _ _).trans HL5.out
  have hR6:RowsAt R w5.drew.heap.size w6 (.slice a6 (outL (aftF d n) xss).length c6) (outL (aftF d n) xss):=⟨a6,c6,vs6,rfl,hov6,hrw6⟩
  rw[hL6] at hR6 ⊢
  have HE6:=Lib.hid (HEE5.out.trans he6)
  have HR6:=Lib.hid hR6
  have HL6:=Lib.hid hL6
  have HSm6:=Lib.hid (((lists_rowsF HS.out).after (t:=d) (d:=s.length) (by rw[HNn.out];exact hd) (Nat.lt_irrefl _)).sm (N:=n+1) (fun y hy=>by have:=HNn.out;omega) (by omega) (by rw[outL_length,HXs.out];have:=HLl.out;omega))
  rw[HNn.out,show listsL s n=xss by rw[←HNn.out];exact HXs.out] at HSm6
  clear he6 hov6 hrw6 hL6 hR6
  by_cases hde:d=e
  ·have hrw:=HRw.out
   rw[if_pos hde] at hrw
   have HRw:=Lib.hid hrw
   have hdb:((d:Int) == (e:Int))=true:=by simp[hde]
   clear hrw hde
   go_wp2_with fail
   refine (after_any R _ HE6.out.inv _ _ (outL (aftF d n) xss) HR6.out HSm6.out n (n+1) (by omega) (by omega)).mono ?_
   rintro z w8 ⟨a8,c8,vs8,rfl,he8,hov8,hrw8⟩
   have hR8:RowsAt R w6.heap.size w8 (.slice a8 (outL (aftF n (n+1)) (outL (aftF d n) xss)).length c8) (outL (aftF n (n+1)) (outL (aftF d n) xss)):=⟨a8,c8,vs8,rfl,hov8,hrw8⟩
   have HRA8:=Lib.hid hR8
   have HEE8:=Lib.hid (HE6.out.trans he8)
   clear he8 hov8 hrw8 hR8
   obtain⟨x0,x1,x2,_⟩:=HB1.out w8 HEE8.out
   go_wp2_with fail
   refine (r23made_any R _ HEE8.out.inv _ _ _ HRA8.out (HRw.out.sm (by have:=HTl.out;omega) (by have:=HLb.out;have:=HL5.out;simp[outL_length];omega)) _ HRw.out.lens HRw.out.below (by have:=HTl.out;omega) root lone).mono ?_
   rintro z w8e ⟨af,cf,rfl,hef,hof⟩
   rw[HRw.out.lay] at hof ⊢
   have HEf:=Lib.hid (HEE8.out.trans hef)
   have HOf:=Lib.hid hof
   have HSf:=Lib.hid HEE8.out.size
   clear hef hof x0 x1 x2
   obtain⟨y0,y1,y2,yz⟩:=boxC_cells (HB2.out _ HEf.out).1
   obtain⟨lf,hlf⟩:∃ l,(chordL s d e).length=l:=⟨_,rfl⟩
   rw[hlf] at HOf
   try rw[hlf]
   have HLF:=Lib.hid hlf
   clear hlf
   simp only[refV]
   go_wp2_with fail
   have hb3:=set3 (x:=.slice af lf cf) (y:=.int .i64 root) (z:=.int .i64 lone) (HB2.out _ HEf.out).1
   obtain⟨u0,u1,u2,_⟩:=boxC_cells hb3
   have hn2:=(HB2.out _ HEf.out).2
   have hne:∀ (o:Nat),(Value.slice af lf cf).ownBlock≠some (⟨w.heap.size+1,o,none⟩:Addr).block:=fun o e'=>by
    have h1:=(HOf.out.lt _ e').1
    have h2:=HZa.out
    have h4:=HSf.out
    have h3:(⟨w.heap.size+1,o,none⟩:Addr).block=w.heap.size+1:=rfl
    omega
   try simp only[Exit.inBlock,Exit.then]
   refine bodyPost_ret (v:=.tuple #[refV (.slice af lf cf) root lone,.int .i64 0]) ?_ rfl (Or.inl ⟨HQ.out,⟨af,cf,by rw[HLF.out],?_,?_⟩⟩)
   ·simp[results,Tryz.results75,go_sem,u0,u1,u2,refV]
   ·exact (((HEa.out.trans HEf.out).setCell (by simp) hn2 _).setCell (by simp) hn2 _).setCell (by simp) hn2 _
   ·rw[HLF.out]
    exact (((HOf.out.mono (by have:=HSf.out;have:=HZa.out;omega)).setCell (hne 0) _).setCell (hne 1) _).setCell (hne 2) _
  ·have hrw:=HRw.out
   rw[if_neg hde] at hrw
   have HRw:=Lib.hid hrw
   have hdb:((d:Int) == (e:Int))=false:=by simp;omega
   clear hrw hde
   go_wp2_with fail
   refine (after_any R _ HE6.out.inv _ _ (outL (aftF d n) xss) HR6.out HSm6.out e (n+1) (by omega) (by omega)).mono ?_
   rintro z w8 ⟨a8,c8,vs8,rfl,he8,hov8,hrw8⟩
   have hR8:RowsAt R w6.heap.size w8 (.slice a8 (outL (aftF e (n+1)) (outL (aftF d n) xss)).length c8) (outL (aftF e (n+1)) (outL (aftF d n) xss)):=⟨a8,c8,vs8,rfl,hov8,hrw8⟩
   have HRA8:=Lib.hid hR8
   have HEE8:=Lib.hid (HE6.out.trans he8)
   clear he8 hov8 hrw8 hR8
   obtain⟨x0,x1,x2,_⟩:=HB1.out w8 HEE8.out
   go_wp2_with fail
   refine (r23made_any R _ HEE8.out.inv _ _ _ HRA8.out (HRw.out.sm (by have:=HTl.out;omega) (by have:=HLb.out;have:=HL5.out;simp[outL_length];omega)) _ HRw.out.lens HRw.out.below (by have:=HTl.out;omega) root lone).mono ?_
   rintro z w8e ⟨af,cf,rfl,hef,hof⟩
   rw[HRw.out.lay] at hof ⊢
   have HEf:=Lib.hid (HEE8.out.trans hef)
   have HOf:=Lib.hid hof
   have HSf:=Lib.hid HEE8.out.size
   clear hef hof x0 x1 x2
   obtain⟨y0,y1,y2,yz⟩:=boxC_cells (HB2.out _ HEf.out).1
   obtain⟨lf,hlf⟩:∃ l,(chordL s d e).length=l:=⟨_,rfl⟩
   rw[hlf] at HOf
   try rw[hlf]
   have HLF:=Lib.hid hlf
   clear hlf
   simp only[refV]
   go_wp2_with fail
   have hb3:=set3 (x:=.slice af lf cf) (y:=.int .i64 root) (z:=.int .i64 lone) (HB2.out _ HEf.out).1
   obtain⟨u0,u1,u2,_⟩:=boxC_cells hb3
   have hn2:=(HB2.out _ HEf.out).2
   have hne:∀ (o:Nat),(Value.slice af lf cf).ownBlock≠some (⟨w.heap.size+1,o,none⟩:Addr).block:=fun o e'=>by
    have h1:=(HOf.out.lt _ e').1
    have h2:=HZa.out
    have h4:=HSf.out
    have h3:(⟨w.heap.size+1,o,none⟩:Addr).block=w.heap.size+1:=rfl
    omega
   try simp only[Exit.inBlock,Exit.then]
   refine bodyPost_ret (v:=.tuple #[refV (.slice af lf cf) root lone,.int .i64 0]) ?_ rfl (Or.inl ⟨HQ.out,⟨af,cf,by rw[HLF.out],?_,?_⟩⟩)
   ·simp[results,Tryz.results75,go_sem,u0,u1,u2,refV]
   ·exact (((HEa.out.trans HEf.out).setCell (by simp) hn2 _).setCell (by simp) hn2 _).setCell (by simp) hn2 _
   ·rw[HLF.out]
    exact (((HOf.out.mono (by have:=HSf.out;have:=HZa.out;omega)).setCell (hne 0) _).setCell (hne 1) _).setCell (hne 2) _
 ·have hqb:(qd != qe)=true:=by simp[hq]
  have HQ:=Lib.hid hq
  clear hq hE5d
  obtain⟨y0,y1,y2,yz⟩:=boxC_cells (HB2.out _ HE5.out).1
  go_region
  all_goals go_wp2_with fail
  have hb3:=set3 (x:=.slice (some ⟨bS,oS,none⟩) n c0) (y:=.int .i64 root) (z:=.int .i64 lone) (HB2.out _ HE5.out).1
  obtain⟨u0,u1,u2,_⟩:=boxC_cells hb3
  have hn2:=(HB2.out _ HE5.out).2
  refine bodyPost_ret (v:=.tuple #[refV (.slice (some ⟨bS,oS,none⟩) n c0) root lone,.int .i64 8]) ?_ rfl (Or.inr ⟨HQ.out,rfl,?_⟩)
  ·simp[results,Tryz.results75,go_sem,u0,u1,u2,refV]
  ·exact ((((HEa.out.trans HE5.out).setCell (by simp) hn2 _).setCell (by simp) hn2 _).setCell (by simp) hn2 _).drew
end
end Go.Proofs.YtklkgicjfnbndaaGreat
