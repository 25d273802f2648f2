/- How great a script's map becomes: names on the corners, at vertices and at faces; how they come through a growth by two darts, a flip, a star. -/
import Derived.Test.YtklkgicjfnbndaaGreatZScriptPlays45
import Derived.Test.YtklkgicjfnbndaaGreatZScriptPlays41
import Derived.Test.YtklkgicjfnbndaaGreatZScriptPlays29
import Derived.Test.YtklkgicjfnbndaaGreatZScriptPlays23
import Derived.Test.YtklkgicjfnbndaaGreatZScriptPlays25
namespace Go.Proofs.YtklkgicjfnbndaaGreat
section
set_option linter.unusedVariables false
set_option linter.unusedSimpArgs false
theorem tally_list {p:Nat→Prop} {n:Nat} (L:List Nat) (h:∀ x,x<n→p x→x∈L):tally p n≤L.length:=by
 have h1:=tally_inj (fun x=>L.idxOf x) (p:=p) (n:=n) (m:=L.length) (q:=fun _=>True) (fun x hx hp=>⟨List.idxOf_lt_length_of_mem (h x hx hp),trivial⟩) (fun x y hx hy hpx hpy e=>by
  have e:L.idxOf x=L.idxOf y:=e
  have a:=List.getElem_idxOf (List.idxOf_lt_length_of_mem (h x hx hpx))
  have b:=List.getElem_idxOf (List.idxOf_lt_length_of_mem (h y hy hpy))
  rw[←a,←b]
  simp only[e])
 exact Nat.le_trans h1 (tally_le _ _)
theorem tally_cover {p:Nat→Prop} {q:Nat→Nat} {n Z:Nat} (hZ:∀ B,tally (fun x=>p x∧q x=B) n≤Z):∀ (L:List Nat) {r:Nat→Prop},(∀ x,r x→p x)→(∀ x,x<n→r x→q x∈L)→tally r n≤L.length*Z
 | [],r,_,h=>by rw[tally_none fun x hx hr=>by have:=h x hx hr;simp at this];omega
 | B :: L,r,hp,h=>by
  rw[tally_split r (fun x=>q x=B)]
  have h1:tally (fun x=>r x∧q x=B) n≤Z:=Nat.le_trans (tally_mono fun x _ hx=>⟨hp x hx.1,hx.2⟩) (hZ B)
  have h2:=tally_cover hZ L (r:=fun x=>r x∧¬ q x=B) (fun x hx=>hp x hx.1) (fun x hx hr=>by
   rcases List.mem_cons.1 (h x hx hr.1) with e|e
   ·exact absurd e hr.2
   ·exact e)
  rw[List.length_cons,Nat.succ_mul]
  omega
theorem cyc_pull {N n:Nat} {f:Nat→Nat} {q:Nat→Nat→Prop} (hf:Pm N f) (hq:Per n q) (π:Nat→Nat) (hπ:∀ x,x<N→π x<n) (hs:∀ x,x<N→q (π x) (π (f x))) {x y:Nat} (hc:cyc N f x y):q (π x) (π y):=by
 have hr:Per N (fun x y=>x<N∧y<N∧q (π x) (π y)):=⟨fun h=>⟨h,h,hq.refl (hπ _ h)⟩,fun h=>⟨h.2.1,h.1,hq.symm h.2.2⟩,fun h k=>⟨h.1,k.2.1,hq.trans h.2.2 k.2.2⟩,fun h=>h.1⟩
 exact (hf.cyc_sub hr (fun x hx=>⟨hx,hf.lt hx,hs x hx⟩) hc).2.2
structure Lab (s:List Nat) (j Z:Nat) (a b:Nat→Nat) (J:List Nat):Prop where
 jl:J.length≤j
 va:∀ x y,cyc s.length (at' s) x y→a x∈J∨a y∈J∨a x=a y
 fb:∀ x y,cyc s.length (at' (phiL s)) x y→b x∈J∨b y∈J∨b x=b y
 cnt:∀ A,tally (fun x=>a x=A) s.length+tally (fun x=>b x=A) s.length≤Z
 pr:∀ A B,tally (fun x=>a x=A∧b x=B) s.length≤3
def LabP (s:List Nat) (j Z:Nat):Prop:=∃ a b J,Lab s j Z a b J
theorem LabP.mono {s:List Nat} {j Z j' Z':Nat} (h:LabP s j Z) (hj:j≤j') (hZ:Z≤Z'):LabP s j' Z':=by
 obtain⟨a,b,J,h⟩:=h
 exact⟨a,b,J,Nat.le_trans h.jl hj,h.va,h.fb,fun A=>Nat.le_trans (h.cnt A) hZ,h.pr⟩
theorem fresh (a b:Nat→Nat) (J:List Nat):∀ n,∃ M,(∀ x,x<n→a x<M∧b x<M)∧∀ y,y∈J→y<M:=by
 have hJ:∃ M,∀ y,y∈J→y<M:=by
  induction J with
  | nil=>exact⟨0,fun y h=>by cases h⟩
  | cons z J ih=>
   obtain⟨M,h⟩:=ih
   refine⟨M+z+1,fun y hy=>?_⟩
   rcases List.mem_cons.1 hy with e|e
   ·omega
   ·have:=h y e;omega
 intro n
 induction n with
 | zero=>obtain⟨M,h⟩:=hJ;exact⟨M,fun x hx=>by omega,h⟩
 | succ n ih=>
  obtain⟨M,h1,h2⟩:=ih
  refine⟨M+a n+b n+1,fun x hx=>?_,fun y hy=>by have:=h2 y hy;omega⟩
  by_cases e:x=n
  ·subst e;omega
  ·have:=h1 x (by omega);omega
theorem two_more (p:Nat→Prop) (n:Nat):tally p (n+2)=tally p n+ind (p n)+ind (p (n+1)):=by rw[tally_succ,tally_succ]
theorem Lab.two {s t:List Nat} (hs:IsPerm s) (hes:s.length % 2=0) (ht:IsPerm t) (hl:t.length=s.length+2) {j Z:Nat} (h:LabP s j Z) (ρ π:Nat→Nat) (hρ0:∀ x,x<s.length→ρ x=x) (hπ0:∀ x,x<s.length→π x=x) (hρ:∀ x,x<s.length+2→ρ x<s.length) (hπ:∀ x,x<s.length+2→π x<s.length)
  (hσ:∀ x,x<s.length+2→cyc s.length (at' s) (ρ x) (ρ (at' t x))) (hφ:∀ x,x<s.length+2→cyc s.length (at' (phiL s)) (π x) (π (at' (phiL t) x))):LabP t (j+1) (Z+2):=by
 obtain⟨a,b,J,h⟩:=h
 obtain⟨M,hM1,hM2⟩:=fresh a b J s.length
 have het:t.length % 2=0:=by omega
 have hp:=phiL_perm hs hes
 have hpl:=phiL_length s
 have hqp:=hp.pm.per
 rw[hpl] at hqp
 have htp:=ht.pm
 have hfp:=(phiL_perm ht het).pm
 rw[hl] at htp
 rw[phiL_length,hl] at hfp
 refine⟨fun x=>if x<s.length then a x else M,fun x=>b (π x),M :: J,by simp;exact h.jl,fun x y hc=>?_,fun x y hc=>?_,fun A=>?_,fun A B=>?_⟩
 ·rw[hl] at hc
  try dsimp only
  by_cases hx:x<s.length
  ·by_cases hy:y<s.length
   ·rw[if_pos hx,if_pos hy]
    have:=cyc_pull htp hs.pm.per ρ hρ hσ hc
    rw[hρ0 x hx,hρ0 y hy] at this
    rcases h.va x y this with k|k|k
    ·exact Or.inl (List.mem_cons_of_mem _ k)
    ·exact Or.inr (Or.inl (List.mem_cons_of_mem _ k))
    ·exact Or.inr (Or.inr k)
   ·rw[if_neg hy];exact Or.inr (Or.inl (List.mem_cons_self ..))
  ·rw[if_neg hx];exact Or.inl (List.mem_cons_self ..)
 ·rw[hl] at hc
  have:=cyc_pull hfp hqp π hπ hφ hc
  rcases h.fb _ _ this with k|k|k
  ·exact Or.inl (List.mem_cons_of_mem _ k)
  ·exact Or.inr (Or.inl (List.mem_cons_of_mem _ k))
  ·exact Or.inr (Or.inr k)
 ·rw[hl,two_more,two_more]
  have e2:tally (fun x=>b (π x)=A) s.length=tally (fun x=>b x=A) s.length:=tally_congr fun x hx=>by rw[hπ0 x hx]
  have i1:=ind_le (b (π s.length)=A)
  have i2:=ind_le (b (π (s.length+1))=A)
  by_cases hA:A=M
  ·have e1:tally (fun x=>(if x<s.length then a x else M)=A) s.length=0:=tally_none fun x hx e=>by
    rw[if_pos hx] at e
    have:=(hM1 x hx).1;omega
   have e3:tally (fun x=>b x=A) s.length=0:=tally_none fun x hx e=>by have:=(hM1 x hx).2;omega
   have e4:ind (b (π s.length)=A)=0:=ind_no fun e=>by have:=(hM1 _ (hπ s.length (by omega))).2;omega
   have e5:ind (b (π (s.length+1))=A)=0:=ind_no fun e=>by have:=(hM1 _ (hπ (s.length+1) (by omega))).2;omega
   have i3:=ind_le ((if s.length<s.length then a s.length else M)=A)
   have i4:=ind_le ((if s.length+1<s.length then a (s.length+1) else M)=A)
   try dsimp only
   omega
  ·have e1:tally (fun x=>(if x<s.length then a x else M)=A) s.length=tally (fun x=>a x=A) s.length:=tally_congr fun x hx=>by rw[if_pos hx]
   have i3:ind ((if s.length<s.length then a s.length else M)=A)=0:=ind_no fun e=>by rw[if_neg (by omega)] at e;exact hA e.symm
   have i4:ind ((if s.length+1<s.length then a (s.length+1) else M)=A)=0:=ind_no fun e=>by rw[if_neg (by omega)] at e;exact hA e.symm
   have:=h.cnt A
   try dsimp only
   omega
 ·rw[hl]
  by_cases hA:A=M
  ·refine Nat.le_trans (tally_list [s.length,s.length+1] fun x hx hp=>?_) (by simp)
   have e:=hp.1
   try dsimp only at e
   by_cases hxl:x<s.length
   ·rw[if_pos hxl] at e
    have:=(hM1 x hxl).1;omega
   ·simp;omega
  ·rw[two_more]
   have i3:ind ((if s.length<s.length then a s.length else M)=A∧b (π s.length)=B)=0:=ind_no fun e=>by have e:=e.1;rw[if_neg (by omega)] at e;exact hA e.symm
   have i4:ind ((if s.length+1<s.length then a (s.length+1) else M)=A∧b (π (s.length+1))=B)=0:=ind_no fun e=>by have e:=e.1;rw[if_neg (by omega)] at e;exact hA e.symm
   have e1:tally (fun x=>(if x<s.length then a x else M)=A∧b (π x)=B) s.length=tally (fun x=>a x=A∧b x=B) s.length:=tally_congr fun x hx=>by rw[if_pos hx,hπ0 x hx]
   have:=h.pr A B
   try dsimp only
   omega
section
variable {s : List Nat} (hs : IsPerm s) (hes : s.length % 2 = 0) {d : Nat} (hd : d < s.length) {j Z : Nat} (h : LabP s j Z)
include hs hes hd h
theorem lab_leaf:LabP (leafL s d) (j+1) (Z+2):=by
 have hdl:=xor_one_lt hes hd
 have hq:=hs.pm.per
 have hp:=phiL_perm hs hes
 have hpl:=phiL_length s
 have hpm:=hp.pm
 rw[hpl] at hpm
 have hqp:=hpm.per
 have pdm:at' (phiL s) (d ^^^ 1)=at' s d:=by rw[phiL_at hdl,xor_one_one]
 refine Lab.two hs hes (leaf_rows hs hd).isPerm (leafL_length s d) h (fun x=>if x<s.length then x else d) (fun x=>if x<s.length then x else at' s d) (fun x hx=>if_pos hx) (fun x hx=>if_pos hx) (fun x hx=>by (try dsimp only);split <;> omega) (fun x hx=>by
  try dsimp only
  split
  ·assumption
  ·exact hs.lt hd) (fun x hx=>?_) (fun x hx=>?_)
 ·try dsimp only
  rw[leaf_at hd hx]
  by_cases h1:x=s.length+1
  ·rw[if_pos h1,if_neg (by omega),if_neg (by omega)];exact hq.refl hd
  ·rw[if_neg h1]
   by_cases h2:x=d
   ·rw[h2,insF_t,if_pos hd,if_neg (by omega)];exact hq.refl hd
   ·by_cases h3:x=s.length
    ·rw[h3,insF_d (by omega),if_neg (by omega),if_pos (hs.lt hd)];exact hs.pm.step hd
    ·rw[insF_o h2 h3,if_pos (by omega),if_pos (hs.lt (by omega))];exact hs.pm.step (by omega)
 ·try dsimp only
  rw[leaf_phi hes hd hx]
  by_cases h1:x=s.length
  ·rw[h1,insF_t,if_neg (by omega),if_neg (by omega)];exact hqp.refl (hs.lt hd)
  by_cases h2:x=s.length+1
  ·rw[h2,insF_d (by omega),insF_d (by omega),if_neg (by omega),pdm,if_pos (hs.lt hd)];exact hqp.refl (hs.lt hd)
  have hxl:x<s.length:=by omega
  rw[insF_o h1 h2,if_pos hxl]
  by_cases h3:x=d ^^^ 1
  ·rw[h3,insF_t,if_neg (by omega),←pdm];exact hpm.step hdl
  ·rw[insF_o h3 h1,if_pos (hpm.lt hxl)];exact hpm.step hxl
theorem lab_chord {e:Nat} (he:e<s.length) (hf:nth (namesL (phiL s)) (at' s d)=nth (namesL (phiL s)) (at' s e)):LabP (chordL s d e) (j+1) (Z+2):=by
 have hr:=chord_rows hs hd he
 have hl:(chordL s d e).length=s.length+2:=by unfold chordL;rw[behindL_length,leafL_length]
 have n0:s.length ^^^ 1=s.length+1:=xor_add (k:=0) hes (by omega)
 have n1:(s.length+1) ^^^ 1=s.length:=xor_add (k:=1) hes (by omega)
 have hdl:=xor_one_lt hes hd
 have hel:=xor_one_lt hes he
 have hq:=hs.pm.per
 have hp:=phiL_perm hs hes
 have hpl:=phiL_length s
 have hpm:=hp.pm
 rw[hpl] at hpm
 have hqp:=hpm.per
 obtain⟨t,htt⟩:∃ t,(if d=e then s.length else e)=t:=⟨_,rfl⟩
 have cat:∀ y,y<s.length+2→at' (chordL s d e) y=insF (at' (leafL s d)) t (s.length+1) y:=fun y hy=>by
  unfold chordL
  rw[htt,behind_at (by rw[leafL_length];exact hy)]
 have lat:∀ y,y≤s.length→at' (leafL s d) y=insF (at' s) d s.length y:=fun y hy=>by rw[leaf_at hd (by omega),if_neg (by omega)]
 have hcf:cyc s.length (at' (phiL s)) (at' s d) (at' s e):=by
  have h1:=(namesL_ord hp).rel (at' s d) (at' s e) (by rw[hpl];exact hs.lt hd) (by rw[hpl];exact hs.lt he)
  rw[hpl] at h1
  exact h1.1 hf
 have htl:t≤s.length:=by rw[←htt];split <;> omega
 have v1:at' (chordL s d e) (s.length+1)=at' s e:=by
  rw[cat _ (by omega),insF_d (by omega),lat _ htl]
  by_cases hde:d=e
  ·rw[if_pos hde] at htt
   rw[←htt,insF_d (by omega),hde]
  ·rw[if_neg hde] at htt
   rw[←htt,insF_o (fun k=>hde k.symm) (by omega)]
 have v0:(d=e∧at' (chordL s d e) s.length=s.length+1)∨(d≠e∧at' (chordL s d e) s.length=at' s d):=by
  by_cases hde:d=e
  ·rw[if_pos hde] at htt
   exact Or.inl ⟨hde,by rw[cat _ (by omega),←htt,insF_t]⟩
  ·rw[if_neg hde] at htt
   exact Or.inr ⟨hde,by rw[cat _ (by omega),insF_o (by omega) (by omega),lat _ (Nat.le_refl _),insF_d (by omega)]⟩
 have vo:∀ y,y<s.length→(y=d∧at' (chordL s d e) y=s.length)∨(y=e∧at' (chordL s d e) y=s.length+1)∨at' (chordL s d e) y=at' s y:=fun y hy=>by
  by_cases hye:y=t
  ·have hde:¬ d=e:=fun k=>by rw[if_pos k] at htt;omega
   rw[if_neg hde] at htt
   exact Or.inr (Or.inl ⟨by omega,by rw[cat _ (by omega),hye,insF_t]⟩)
  ·have e1:at' (chordL s d e) y=insF (at' s) d s.length y:=by rw[cat _ (by omega),insF_o hye (by omega),lat _ (by omega)]
   by_cases hyd:y=d
   ·exact Or.inl ⟨hyd,by rw[e1,hyd,insF_t]⟩
   ·exact Or.inr (Or.inr (by rw[e1,insF_o hyd (by omega)]))
 refine Lab.two hs hes hr.isPerm hl h (fun x=>if x<s.length then x else if x=s.length then d else e) (fun x=>if x<s.length then x else at' s d) (fun x hx=>if_pos hx) (fun x hx=>if_pos hx) (fun x hx=>by (try dsimp only);split <;> (try split) <;> omega) (fun x hx=>by
  try dsimp only
  split
  ·assumption
  ·exact hs.lt hd) (fun x hx=>?_) (fun x hx=>?_)
 ·try dsimp only
  by_cases h1:x=s.length+1
  ·rw[h1,v1,if_neg (by omega),if_neg (by omega),if_pos (hs.lt he)];exact hs.pm.step he
  by_cases h2:x=s.length
  ·rw[h2,if_neg (by omega),if_pos rfl]
   rcases v0 with ⟨k,v⟩|⟨k,v⟩
   ·rw[v,if_neg (by omega),if_neg (by omega),k];exact hq.refl he
   ·rw[v,if_pos (hs.lt hd)];exact hs.pm.step hd
  have hxl:x<s.length:=by omega
  rw[if_pos hxl]
  rcases vo x hxl with ⟨k,v⟩|⟨k,v⟩|v
  ·rw[v,if_neg (by omega),if_pos rfl,k];exact hq.refl hd
  ·rw[v,if_neg (by omega),if_neg (by omega),k];exact hq.refl he
  ·rw[v,if_pos (hs.lt hxl)];exact hs.pm.step hxl
 ·try dsimp only
  rw[phiL_at (by rw[hl];exact hx)]
  by_cases h1:x=s.length+1
  ·rw[h1,n1,if_neg (by omega)]
   rcases v0 with ⟨k,v⟩|⟨k,v⟩
   ·rw[v,if_neg (by omega)];exact hqp.refl (hs.lt hd)
   ·rw[v,if_pos (hs.lt hd)];exact hqp.refl (hs.lt hd)
  by_cases h2:x=s.length
  ·rw[h2,n0,v1,if_neg (by omega),if_pos (hs.lt he)];exact hcf
  have hxl:x<s.length:=by omega
  have hxm:=xor_one_lt hes hxl
  have px:at' (phiL s) x=at' s (x ^^^ 1):=phiL_at hxl
  have hst:=hpm.step hxl
  rw[px] at hst
  rw[if_pos hxl]
  rcases vo _ hxm with ⟨k,v⟩|⟨k,v⟩|v
  ·rw[v,if_neg (by omega),←k];exact hst
  ·rw[v,if_neg (by omega)];rw[k] at hst;exact hqp.trans hst (hqp.symm hcf)
  ·rw[v,if_pos (hs.lt hxm)];exact hst
theorem lab_split:LabP (splitL s d) (j+1) (Z+2):=by
 obtain⟨m,hm⟩:∃ m,d ^^^ 1=m:=⟨_,rfl⟩
 have hml:m<s.length:=by rw[←hm];exact xor_one_lt hes hd
 have hr:=split_rows hs hm hml
 have hq:=hs.pm.per
 have hp:=phiL_perm hs hes
 have hpl:=phiL_length s
 have hpm:=hp.pm
 rw[hpl] at hpm
 have hqp:=hpm.per
 obtain⟨hi1,hi2⟩:=at_invL hp (y:=m) (by rw[hpl];exact hml)
 obtain⟨q,hqq⟩:∃ q,at' (invL (phiL s)) m=q:=⟨_,rfl⟩
 rw[hqq,hpl] at hi2
 rw[hqq] at hi1
 refine Lab.two hs hes hr.isPerm (splitL_length s d) h (fun x=>if x<s.length then x else m) (fun x=>if x<s.length then x else if x=s.length then d else m) (fun x hx=>if_pos hx) (fun x hx=>if_pos hx) (fun x hx=>by (try dsimp only);split <;> omega) (fun x hx=>by (try dsimp only);split <;> (try split) <;> omega) (fun x hx=>?_) (fun x hx=>?_)
 ·try dsimp only
  rw[split_at hs hm hml hx]
  by_cases h1:x=m
  ·rw[if_pos h1,h1,if_pos hml,if_neg (by omega)];exact hq.refl hml
  rw[if_neg h1]
  by_cases h2:x=s.length
  ·rw[if_pos h2,if_pos hml,if_neg (by omega)];exact hq.refl hml
  rw[if_neg h2]
  by_cases h3:x=s.length+1
  ·rw[if_pos h3,if_neg (by omega)]
   by_cases h4:at' s m=m
   ·rw[if_pos h4,if_neg (by omega)];exact hq.refl hml
   ·rw[if_neg h4,if_pos (hs.lt hml)];exact hs.pm.step hml
  rw[if_neg h3]
  have hxl:x<s.length:=by omega
  rw[if_pos hxl]
  by_cases h4:at' s x=m
  ·rw[if_pos h4,if_neg (by omega)]
   have:=hs.pm.step hxl
   rwa [h4] at this
  ·rw[if_neg h4,if_pos (hs.lt hxl)];exact hs.pm.step hxl
 ·try dsimp only
  rw[split_phi hs hes hm hd hx,hqq]
  obtain⟨t,ht⟩:∃ t,(if at' (phiL s) d=m then s.length else q)=t:=⟨_,rfl⟩
  rw[ht]
  by_cases h1:at' (phiL s) d=m
  ·rw[if_pos h1] at ht
   subst ht
   by_cases h2:x=s.length
   ·rw[h2,insF_t,if_neg (by omega),if_pos rfl,if_neg (by omega),if_neg (by omega),←h1];exact hpm.step hd
   by_cases h3:x=s.length+1
   ·rw[h3,insF_d (by omega),insF_d (by omega),h1,if_neg (by omega),if_neg (by omega),if_pos hml];exact hqp.refl hml
   have hxl:x<s.length:=by omega
   rw[insF_o h2 h3,if_pos hxl]
   by_cases h4:x=d
   ·rw[h4,insF_t,if_neg (by omega),if_pos rfl];exact hqp.refl hd
   ·rw[insF_o h4 h2,if_pos (hpm.lt hxl)];exact hpm.step hxl
  ·rw[if_neg h1] at ht
   subst ht
   have hqd:q≠d:=fun k=>h1 (by rw[←k];exact hi1)
   by_cases h2:x=s.length+1
   ·rw[h2,insF_d (by omega),insF_o hqd (by omega),hi1,if_neg (by omega),if_neg (by omega),if_pos hml];exact hqp.refl hml
   by_cases h3:x=q
   ·rw[h3,insF_t,if_pos hi2,if_neg (by omega),if_neg (by omega)]
    have:=hpm.step hi2
    rwa [hi1] at this
   rw[insF_o h3 h2]
   by_cases h4:x=s.length
   ·rw[h4,insF_d (by omega),if_neg (by omega),if_pos rfl,if_pos (hpm.lt hd)];exact hpm.step hd
   have hxl:x<s.length:=by omega
   rw[if_pos hxl]
   by_cases h5:x=d
   ·rw[h5,insF_t,if_neg (by omega),if_pos rfl];exact hqp.refl hd
   ·rw[insF_o h5 h4,if_pos (hpm.lt hxl)];exact hpm.step hxl
end
end
section
set_option linter.unusedVariables false
set_option linter.unusedSimpArgs false
theorem LabP.dual {s:List Nat} (hes:s.length % 2=0) {j Z:Nat} (h:LabP s j Z):LabP (phiL s) j Z:=by
 obtain⟨a,b,J,h⟩:=h
 have hpl:=phiL_length s
 refine⟨b,a,J,h.jl,fun x y hc=>h.fb x y (by rw[hpl] at hc;exact hc),fun x y hc=>h.va x y (by rw[hpl,phi_phi hes] at hc;exact hc),fun A=>?_,fun A B=>?_⟩
 ·rw[hpl];have:=h.cnt A;omega
 ·rw[hpl]
  have:=h.pr B A
  rw[tally_congr (q:=fun x=>a x=B∧b x=A) fun x _=>And.comm]
  exact this
theorem Lab.sub {s t:List Nat} (hs:IsPerm s) (hes:s.length % 2=0) {j Z:Nat} (u:Nat→Nat) (hu:∀ x,x<t.length→u x<s.length) (hi:∀ x y,x<t.length→y<t.length→u x=u y→x=y) {a b:Nat→Nat} {J J':List Nat} (h:Lab s j Z a b J) (hJ:∀ y,y∈J→y∈J') {j':Nat} (hjl:J'.length≤j')
  (hv:∀ x y,cyc t.length (at' t) x y→cyc s.length (at' s) (u x) (u y)) (hf:∀ x y,cyc t.length (at' (phiL t)) x y→b (u x)∈J'∨b (u y)∈J'∨b (u x)=b (u y)):LabP t j' Z:=by
 refine⟨fun x=>a (u x),fun x=>b (u x),J',hjl,fun x y hc=>?_,hf,fun A=>?_,fun A B=>?_⟩
 ·rcases h.va _ _ (hv x y hc) with k|k|k
  ·exact Or.inl (hJ _ k)
  ·exact Or.inr (Or.inl (hJ _ k))
  ·exact Or.inr (Or.inr k)
 ·have h1:=tally_inj u (p:=fun x=>a (u x)=A) (n:=t.length) (m:=s.length) (q:=fun x=>a x=A) (fun x hx hp=>⟨hu x hx,hp⟩) (fun x y hx hy _ _ e=>hi x y hx hy e)
  have h2:=tally_inj u (p:=fun x=>b (u x)=A) (n:=t.length) (m:=s.length) (q:=fun x=>b x=A) (fun x hx hp=>⟨hu x hx,hp⟩) (fun x y hx hy _ _ e=>hi x y hx hy e)
  have:=h.cnt A
  omega
 ·have h1:=tally_inj u (p:=fun x=>a (u x)=A∧b (u x)=B) (n:=t.length) (m:=s.length) (q:=fun x=>a x=A∧b x=B) (fun x hx hp=>⟨hu x hx,hp⟩) (fun x y hx hy _ _ e=>hi x y hx hy e)
  have:=h.pr A B
  omega
theorem LabP.mirror {s:List Nat} (hs:IsPerm s) (hes:s.length % 2=0) {j Z:Nat} (h:LabP s j Z):LabP (invL s) j Z:=by
 obtain⟨a,b,J,h⟩:=h
 have hil:=invL_length s
 have hip:=invL_perm hs
 have hq:=hs.pm.per
 have hp:=phiL_perm hs hes
 have hpl:=phiL_length s
 have hpm:=hp.pm
 rw[hpl] at hpm
 have hqp:=hpm.per
 have him:=hip.pm
 rw[hil] at him
 have hie:(invL s).length % 2=0:=by rw[hil];exact hes
 have hfm:=(phiL_perm hip hie).pm
 rw[phiL_length,hil] at hfm
 refine Lab.sub hs hes (fun x=>at' s x) (fun x hx=>hs.lt (by rw[hil] at hx;exact hx)) (fun x y hx hy e=>hs.inj (by rw[hil] at hx;exact hx) (by rw[hil] at hy;exact hy) e) h (fun y hy=>hy) h.jl (fun x y hc=>?_) (fun x y hc=>?_)
 ·rw[hil] at hc
  refine cyc_pull him hq (fun x=>at' s x) (fun x hx=>hs.lt hx) (fun x hx=>?_) hc
  have:=(at_invL hs hx).1
  try dsimp only
  rw[this]
  exact hq.symm (hs.pm.step hx)
 ·rw[hil] at hc
  refine h.fb _ _ (cyc_pull hfm hqp (fun x=>at' s x) (fun x hx=>hs.lt hx) (fun x hx=>?_) hc)
  have hxm:=xor_one_lt hes hx
  try dsimp only
  rw[phiL_at (by rw[hil];exact hx),(at_invL hs hxm).1]
  have:=hpm.step hxm
  rw[phiL_at hxm,xor_one_one] at this
  exact hqp.symm this
theorem LabP.names {s t:List Nat} (hs:IsPerm s) (hes:s.length % 2=0) (ht:IsPerm t) (hl:t.length=s.length) (hm:Mates t) {j Z:Nat} (h:LabP s j Z):LabP (relL s t) j Z:=by
 obtain⟨a,b,J,h⟩:=h
 have hrl:=relL_length s t
 have hip:=invL_perm ht
 have hil:=invL_length t
 have hlt:∀ x,x<s.length→at' (invL t) x<s.length:=fun x hx=>by have:=(at_invL ht (y:=x) (by omega)).2;omega
 have hback:∀ x,x<s.length→at' t (at' (invL t) x)=x:=fun x hx=>(at_invL ht (by omega)).1
 refine Lab.sub hs hes (fun x=>at' (invL t) x) (fun x hx=>hlt x (by omega)) (fun x y hx hy e=>hip.inj (by omega) (by omega) e) h (fun y hy=>hy) h.jl (fun x y hc=>?_) (fun x y hc=>?_)
 ·rw[hrl] at hc
  refine (rel_cyc hs ht hl (hlt x hc.1) (hlt y hc.2.1)).2 ?_
  rw[hback x hc.1,hback y hc.2.1]
  exact hc
 ·rw[hrl,phi_rel hes ht hl hm] at hc
  refine h.fb _ _ ?_
  have hpl:=phiL_length s
  have:=(rel_cyc (phiL_perm hs hes) ht (by rw[hpl];exact hl) (x:=at' (invL t) x) (y:=at' (invL t) y) (by rw[hpl];exact hlt x hc.1) (by rw[hpl];exact hlt y hc.2.1)).2
  rw[hpl] at this
  refine this ?_
  rw[hback x hc.1,hback y hc.2.1]
  exact hc
theorem LabP.cut {s:List Nat} (hs:IsPerm s) (hes:s.length % 2=0) {e:Nat} (hn:2*e+2≤s.length) {j Z:Nat} (h:LabP s j Z):LabP (doneL s e) (j+1) Z:=by
 obtain⟨a,b,J,h⟩:=h
 have hp:=phiL_perm hs hes
 have hpl:=phiL_length s
 have hpm:=hp.pm
 rw[hpl] at hpm
 have hqp:=hpm.per
 have hn1:2*e+2≤(phiL s).length:=by rw[hpl];exact hn
 have hu:=exL_perm hp hn1
 have hul:(exL (phiL s) e).length=s.length:=by rw[exL_length,hpl]
 have hdl:=doneL_length s e
 have hA:2*e<s.length:=by omega
 have hB:2*e+1<s.length:=by omega
 have t1:phiL (doneL s e)=doneL (exL (phiL s) e) e:=by
  have h:=turn_shrink hp (by rw[hpl];exact hes) hn1
  rw[phi_phi hes] at h
  rw[←h]
  exact phi_phi (by rw[doneL_length,hul];omega)
 obtain⟨J',hJl,hJ,hown⟩:∃ J':List Nat,J'.length≤j+1∧(∀ y,y∈J→y∈J')∧∀ x,cyc s.length (at' (phiL s)) (2*e) x→b x∈J':=by
  by_cases hx:∃ x,cyc s.length (at' (phiL s)) (2*e) x∧b x∉J
  ·obtain⟨x,hx,hn⟩:=hx
   refine⟨b x :: J,by have:=h.jl;simp;omega,fun y hy=>List.mem_cons_of_mem _ hy,fun y hy=>?_⟩
   rcases h.fb x y (hqp.trans (hqp.symm hx) hy) with k|k|k
   ·exact absurd k hn
   ·exact List.mem_cons_of_mem _ k
   ·rw[←k];exact List.mem_cons_self ..
  ·refine⟨J,by have:=h.jl;omega,fun y hy=>hy,fun y hy=>?_⟩
   apply Classical.byContradiction
   intro k
   exact hx ⟨y,hy,k⟩
 refine Lab.sub hs hes (unL e) (fun x hx=>unL_lt hn (by omega)) (fun x y _ _ k=>unL_inj k) h hJ hJl (fun x y hc=>?_) (fun x y hc=>?_)
 ·rw[hdl] at hc
  exact (cyc_done hs hn hc.1 hc.2.1).1 hc
 ·rw[hdl,t1] at hc
  have h1:=(cyc_done hu (by rw[hul];exact hn) (x:=x) (y:=y) (by rw[hul];exact hc.1) (by rw[hul];exact hc.2.1)).1 (by rw[hul];exact hc)
  rw[hul] at h1
  have hmr:=hqp.mrg hA hB
  have hum:=hu.pm
  rw[hul] at hum
  have h2:mrg (cyc s.length (at' (phiL s))) (2*e) (2*e+1) (unL e x) (unL e y):=hum.cyc_sub hmr (fun z hz=>by
   rw[exL_at (by rw[hpl];exact hz)]
   unfold exI
   by_cases k1:z=2*e+1
   ·rw[if_pos k1,k1]
    exact Or.inr (Or.inr ⟨hqp.refl hB,hpm.step hA⟩)
   ·rw[if_neg k1]
    by_cases k2:z=2*e
    ·rw[if_pos k2,k2]
     exact Or.inr (Or.inl ⟨hqp.refl hA,hpm.step hB⟩)
    ·rw[if_neg k2]
     exact Or.inl (hpm.step hz)) h1
  rcases h2 with k|⟨k,_⟩|⟨_,k⟩
  ·rcases h.fb _ _ k with k|k|k
   ·exact Or.inl (hJ _ k)
   ·exact Or.inr (Or.inl (hJ _ k))
   ·exact Or.inr (Or.inr k)
  ·exact Or.inl (hown _ (hqp.symm k))
  ·exact Or.inr (Or.inl (hown _ k))
theorem LabP.shrink {s:List Nat} (hs:IsPerm s) (hes:s.length % 2=0) {e:Nat} (hn:2*e+2≤s.length) {j Z:Nat} (h:LabP s j Z):LabP (doneL (exL s e) e) (j+1) Z:=by
 have hp:=phiL_perm hs hes
 have hpl:=phiL_length s
 have h1:=LabP.cut hp (by rw[hpl];exact hes) (e:=e) (by rw[hpl];exact hn) (h.dual hes)
 have h2:=h1.dual (by rw[doneL_length,hpl];omega)
 rw[←turn_shrink hs hes hn,phi_phi (by rw[doneL_length,exL_length];omega)] at h2
 exact h2
section
variable {s : List Nat} (hs : IsPerm s) (hes : s.length % 2 = 0)
include hs hes
set_option maxHeartbeats 1000000 in
theorem LabP.flip {d m pd pa pm pb:Nat} (hF:FlipD s d m pd pa pm pb) {j Z:Nat} (hZ:1≤Z) (h:LabP s j Z):LabP (flipL s d) (j+1) (Z+2):=by
 obtain⟨a,b,J,h⟩:=h
 obtain⟨M,hM1,hM2⟩:=fresh a b J s.length
 obtain⟨n1,n2,n3,n4,n5,n6,n7,n8,n9,n10,n11,n12,n13,n14,n15⟩:=hF.ne
 have hr:=hF.rows hs hes
 have ht:=hr.isPerm
 have hl:=flipL_length s d
 have het:(flipL s d).length % 2=0:=by rw[hl];exact hes
 have hq:=hs.pm.per
 have hp:=phiL_perm hs hes
 have hpl:=phiL_length s
 have hpm:=hp.pm
 rw[hpl] at hpm
 have hqp:=hpm.per
 have htp:=ht.pm
 rw[hl] at htp
 have hfp:=(phiL_perm ht het).pm
 rw[phiL_length,hl] at hfp
 have mt:∀ x,x<s.length→x ^^^ 1<s.length:=fun x hx=>xor_one_lt hes hx
 have smt:∀ x,x<s.length→at' s (x ^^^ 1)=at' (phiL s) x:=fun x hx=>(phiL_at hx).symm
 have stp:∀ x,x<s.length→cyc s.length (at' s) (x ^^^ 1) (at' (phiL s) x):=fun x hx=>by rw[←smt x hx];exact hs.pm.step (mt x hx)
 obtain⟨X1,hX1⟩:∃ X,X=[d,pb,pd]:=⟨_,rfl⟩
 obtain⟨X2,hX2⟩:∃ X,X=[m,pa,pm]:=⟨_,rfl⟩
 have m1:∀ x,x∈X1↔x=d∨x=pb∨x=pd:=fun x=>by rw[hX1];simp
 have m2:∀ x,x∈X2↔x=m∨x=pa∨x=pm:=fun x=>by rw[hX2];simp
 have hdis:∀ x,x∈X1→x∉X2:=fun x h1 h2=>by
  rw[m1] at h1
  rw[m2] at h2
  rcases h1 with e|e|e <;> rcases h2 with e'|e'|e'
  ·exact n3 (e.symm.trans e')
  ·exact n2 (e.symm.trans e')
  ·exact n4 (e.symm.trans e')
  ·exact n14 (e'.symm.trans e)
  ·exact n12 (e'.symm.trans e)
  ·exact n15 (e'.symm.trans e)
  ·exact n7 (e.symm.trans e')
  ·exact n6 (e.symm.trans e')
  ·exact n8 (e.symm.trans e')
 refine⟨fun x=>if x=d∨x=m then M else a x,fun x=>if x∈X1 then M+1 else if x∈X2 then M+2 else b x,M :: J,by simp;exact h.jl,fun x y hc=>?_,fun x y hc=>?_,fun A=>?_,fun A B=>?_⟩
 ·rw[hl] at hc
  try dsimp only
  by_cases hx:x=d∨x=m
  ·rw[if_pos hx];exact Or.inl (List.mem_cons_self ..)
  by_cases hy:y=d∨y=m
  ·rw[if_pos hy];exact Or.inr (Or.inl (List.mem_cons_self ..))
  rw[if_neg hx,if_neg hy]
  obtain⟨ρ,vd,vm,old⟩:∃ ρ:Nat→Nat,ρ d=pa∧ρ m=pb∧∀ z,z≠d→z≠m→ρ z=z:=⟨fun z=>if z=d then pa else if z=m then pb else z,if_pos rfl,by
   show (if m=d then pa else if m=m then pb else m)=pb
   rw[if_neg (fun k=>n3 k.symm),if_pos rfl],fun z k1 k2=>by
   show (if z=d then pa else if z=m then pb else z)=z
   rw[if_neg k1,if_neg k2]⟩
  have hpull:=cyc_pull htp hq ρ (fun x hx=>by
   by_cases c1:x=d
   ·rw[c1,vd];exact hF.pal
   ·by_cases c2:x=m
    ·rw[c2,vm];exact hF.pbl
    ·rw[old x c1 c2];exact hx) (fun z hz=>?_) hc
  ·try dsimp only at hpull
   rw[old x (fun k=>hx (Or.inl k)) (fun k=>hx (Or.inr k)),old y (fun k=>hy (Or.inl k)) (fun k=>hy (Or.inr k))] at hpull
   rcases h.va x y hpull with k|k|k
   ·exact Or.inl (List.mem_cons_of_mem _ k)
   ·exact Or.inr (Or.inl (List.mem_cons_of_mem _ k))
   ·exact Or.inr (Or.inr k)
  ·try dsimp only
   have e1:=stp pm hF.pml
   rw[hF.fpm] at e1
   have e2:=stp pd hF.pdl
   rw[hF.fpd] at e2
   have e3:=stp pa hF.pal
   rw[hF.fpa] at e3
   have e4:=stp pb hF.pbl
   rw[hF.fpb] at e4
   have e5:=stp m hF.ml
   rw[hF.fm,hF.md] at e5
   have e6:=stp d hF.dl
   rw[hF.fd,hF.dm] at e6
   have hx1:∀ {u v:Nat},u ^^^ 1=v→u=v ^^^ 1:=fun {u v} k=>by rw[←k,xor_one_one]
   have w1:pm ^^^ 1≠d:=fun k=>by have:=hx1 k;rw[hF.dm] at this;exact n13 this.symm
   have w2:pm ^^^ 1≠m:=fun k=>by have:=hx1 k;rw[hF.md] at this;exact n4 this.symm
   have w3:pd ^^^ 1≠d:=fun k=>by have:=hx1 k;rw[hF.dm] at this;exact n7 this
   have w4:pd ^^^ 1≠m:=fun k=>by have:=hx1 k;rw[hF.md] at this;exact n1 this.symm
   have w5:pa ^^^ 1≠d:=fun k=>by have:=hx1 k;rw[hF.dm] at this;exact n10 this
   have w6:pa ^^^ 1≠m:=fun k=>by have:=hx1 k;rw[hF.md] at this;exact n2 this.symm
   have w7:pb ^^^ 1≠d:=fun k=>by have:=hx1 k;rw[hF.dm] at this;exact n14 this.symm
   have w8:pb ^^^ 1≠m:=fun k=>by have:=hx1 k;rw[hF.md] at this;exact n5 this.symm
   rw[FlipD.at_ hs hes hF hz]
   by_cases c1:z=pm ^^^ 1
   ·rw[if_pos c1,c1,old _ w1 w2,vm];exact e1
   rw[if_neg c1]
   by_cases c2:z=m
   ·rw[if_pos c2,c2,vm,old pb (fun k=>n5 k.symm) (fun k=>n14 k.symm)];exact hq.refl hF.pbl
   rw[if_neg c2]
   by_cases c3:z=pd ^^^ 1
   ·rw[if_pos c3,c3,old _ w3 w4,vd];exact e2
   rw[if_neg c3]
   by_cases c4:z=d
   ·rw[if_pos c4,c4,vd,old pa (fun k=>n2 k.symm) (fun k=>n10 k)];exact hq.refl hF.pal
   rw[if_neg c4,old z c4 c2]
   by_cases c5:z=pa ^^^ 1
   ·rw[if_pos c5,c5,old pm (fun k=>n4 k.symm) (fun k=>n13 k.symm)];exact hq.trans e3 e5
   rw[if_neg c5]
   by_cases c6:z=pb ^^^ 1
   ·rw[if_pos c6,c6,old pd (fun k=>n1 k.symm) (fun k=>n7 k)];exact hq.trans e4 e6
   rw[if_neg c6,old _ (fun k=>c5 ?_) (fun k=>c6 ?_)]
   ·exact hs.pm.step hz
   ·have:=hs.inj hz (mt pa hF.pal) (by rw[k,smt pa hF.pal,hF.fpa]);exact this
   ·have:=hs.inj hz (mt pb hF.pbl) (by rw[k,smt pb hF.pbl,hF.fpb]);exact this
 ·rw[hl] at hc
  have hper:Per s.length (fun x y=>x<s.length∧y<s.length∧((x∈X1∧y∈X1)∨(x∈X2∧y∈X2)∨(x∉X1∧x∉X2∧y∉X1∧y∉X2∧cyc s.length (at' (phiL s)) x y))):=by
   refine⟨fun {x} hx=>⟨hx,hx,?_⟩,?_,?_,fun k=>k.1⟩
   ·by_cases k1:x∈X1
    ·exact Or.inl ⟨k1,k1⟩
    ·by_cases k2:x∈X2
     ·exact Or.inr (Or.inl ⟨k2,k2⟩)
     ·exact Or.inr (Or.inr ⟨k1,k2,k1,k2,hqp.refl hx⟩)
   ·rintro x y ⟨k1,k2,⟨k3,k4⟩|⟨k3,k4⟩|⟨k3,k4,k5,k6,k7⟩⟩
    ·exact⟨k2,k1,Or.inl ⟨k4,k3⟩⟩
    ·exact⟨k2,k1,Or.inr (Or.inl ⟨k4,k3⟩)⟩
    ·exact⟨k2,k1,Or.inr (Or.inr ⟨k5,k6,k3,k4,hqp.symm k7⟩)⟩
   ·rintro x y z ⟨k1,k2,⟨k3,k4⟩|⟨k3,k4⟩|⟨k3,k4,k5,k6,k7⟩⟩ ⟨l1,l2,⟨l3,l4⟩|⟨l3,l4⟩|⟨l3,l4,l5,l6,l7⟩⟩
    ·exact⟨k1,l2,Or.inl ⟨k3,l4⟩⟩
    ·exact absurd l3 (hdis _ k4)
    ·exact absurd k4 l3
    ·exact absurd k4 (hdis _ l3)
    ·exact⟨k1,l2,Or.inr (Or.inl ⟨k3,l4⟩)⟩
    ·exact absurd k4 l4
    ·exact absurd l3 k5
    ·exact absurd l3 k6
    ·exact⟨k1,l2,Or.inr (Or.inr ⟨k3,k4,l5,l6,hqp.trans k7 l7⟩)⟩
  have hsub:=hfp.cyc_sub hper (fun z hz=>by
   refine⟨hz,hfp.lt hz,?_⟩
   rw[FlipD.phi hs hes hF hz]
   by_cases c1:z=pm
   ·rw[if_pos c1];exact Or.inr (Or.inl ⟨(m2 z).2 (Or.inr (Or.inr c1)),(m2 m).2 (Or.inl rfl)⟩)
   rw[if_neg c1]
   by_cases c2:z=d
   ·rw[if_pos c2];exact Or.inl ⟨(m1 z).2 (Or.inl c2),(m1 pb).2 (Or.inr (Or.inl rfl))⟩
   rw[if_neg c2]
   by_cases c3:z=pd
   ·rw[if_pos c3];exact Or.inl ⟨(m1 z).2 (Or.inr (Or.inr c3)),(m1 d).2 (Or.inl rfl)⟩
   rw[if_neg c3]
   by_cases c4:z=m
   ·rw[if_pos c4];exact Or.inr (Or.inl ⟨(m2 z).2 (Or.inl c4),(m2 pa).2 (Or.inr (Or.inl rfl))⟩)
   rw[if_neg c4]
   by_cases c5:z=pa
   ·rw[if_pos c5];exact Or.inr (Or.inl ⟨(m2 z).2 (Or.inr (Or.inl c5)),(m2 pm).2 (Or.inr (Or.inr rfl))⟩)
   rw[if_neg c5]
   by_cases c6:z=pb
   ·rw[if_pos c6];exact Or.inl ⟨(m1 z).2 (Or.inr (Or.inl c6)),(m1 pd).2 (Or.inr (Or.inr rfl))⟩
   rw[if_neg c6]
   have inj:∀ u,u<s.length→at' (phiL s) z=at' (phiL s) u→z=u:=fun u hu k=>hp.inj (by rw[hpl];exact hz) (by rw[hpl];exact hu) k
   refine Or.inr (Or.inr ⟨fun k=>?_,fun k=>?_,fun k=>?_,fun k=>?_,hpm.step hz⟩)
   ·rw[m1] at k
    rcases k with k|k|k
    ·exact c2 k
    ·exact c6 k
    ·exact c3 k
   ·rw[m2] at k
    rcases k with k|k|k
    ·exact c4 k
    ·exact c5 k
    ·exact c1 k
   ·rw[m1] at k
    rcases k with k|k|k
    ·exact c5 (inj pa hF.pal (by rw[k,hF.fpa]))
    ·exact c1 (inj pm hF.pml (by rw[k,hF.fpm]))
    ·exact c2 (inj d hF.dl (by rw[k,hF.fd]))
   ·rw[m2] at k
    rcases k with k|k|k
    ·exact c6 (inj pb hF.pbl (by rw[k,hF.fpb]))
    ·exact c3 (inj pd hF.pdl (by rw[k,hF.fpd]))
    ·exact c4 (inj m hF.ml (by rw[k,hF.fm]))) hc
  try dsimp only
  rcases hsub with ⟨_,_,⟨k3,k4⟩|⟨k3,k4⟩|⟨k3,k4,k5,k6,k7⟩⟩
  ·rw[if_pos k3,if_pos k4];exact Or.inr (Or.inr rfl)
  ·rw[if_neg (fun k=>hdis _ k k3),if_neg (fun k=>hdis _ k k4),if_pos k3,if_pos k4];exact Or.inr (Or.inr rfl)
  ·rw[if_neg k3,if_neg k5,if_neg k4,if_neg k6]
   rcases h.fb x y k7 with k|k|k
   ·exact Or.inl (List.mem_cons_of_mem _ k)
   ·exact Or.inr (Or.inl (List.mem_cons_of_mem _ k))
   ·exact Or.inr (Or.inr k)
 ·rw[hl]
  clear n1 n2 n3 n4 n5 n6 n7 n8 n9 n10 n11 n12 n13 n14 n15
  have hbx:∀ x,x<s.length→A<M→(if x∈X1 then M+1 else if x∈X2 then M+2 else b x)=A→b x=A:=fun x hx hA k=>by
   split at k
   ·omega
   ·split at k
    ·omega
    ·exact k
  by_cases hA:A<M
  ·have h1:tally (fun x=>(if x=d∨x=m then M else a x)=A) s.length≤tally (fun x=>a x=A) s.length:=tally_mono fun x hx k=>by
    split at k
    ·omega
    ·exact k
   have h2:tally (fun x=>(if x∈X1 then M+1 else if x∈X2 then M+2 else b x)=A) s.length≤tally (fun x=>b x=A) s.length:=tally_mono fun x hx k=>hbx x hx hA k
   have:=h.cnt A
   omega
  ·have h1:tally (fun x=>(if x=d∨x=m then M else a x)=A) s.length≤if A=M then 2 else 0:=by
    by_cases hAM:A=M
    ·rw[if_pos hAM]
     refine Nat.le_trans (tally_list [d,m] fun x hx k=>?_) (by simp)
     by_cases c:x=d∨x=m
     ·simpa using c
     ·rw[if_neg c] at k
      have:=(hM1 x hx).1;omega
    ·rw[if_neg hAM]
     exact Nat.le_of_eq (tally_none fun x hx k=>by
      split at k
      ·exact hAM k.symm
      ·have:=(hM1 x hx).1;omega)
   have h2:tally (fun x=>(if x∈X1 then M+1 else if x∈X2 then M+2 else b x)=A) s.length≤if A=M then 0 else 3:=by
    by_cases hAM:A=M
    ·rw[if_pos hAM]
     exact Nat.le_of_eq (tally_none fun x hx k=>by
      split at k
      ·omega
      ·split at k
       ·omega
       ·have:=(hM1 x hx).2;omega)
    ·rw[if_neg hAM]
     by_cases hA1:A=M+1
     ·refine Nat.le_trans (tally_list X1 fun x hx k=>?_) (by rw[hX1];simp)
      split at k
      ·assumption
      ·split at k
       ·omega
       ·have:=(hM1 x hx).2;omega
     ·refine Nat.le_trans (tally_list X2 fun x hx k=>?_) (by rw[hX2];simp)
      split at k
      ·omega
      ·split at k
       ·assumption
       ·have:=(hM1 x hx).2;omega
   by_cases hAM:A=M
   ·rw[if_pos hAM] at h1 h2;omega
   ·rw[if_neg hAM] at h1 h2;omega
 ·rw[hl]
  clear n1 n2 n3 n4 n5 n6 n7 n8 n9 n10 n11 n12 n13 n14 n15
  by_cases hA:A<M
  ·by_cases hB:B<M
   ·refine Nat.le_trans (tally_mono fun x hx k=>⟨?_,?_⟩) (h.pr A B)
    ·have k:=k.1
     split at k
     ·omega
     ·exact k
    ·have k:=k.2
     split at k
     ·omega
     ·split at k
      ·omega
      ·exact k
   ·by_cases hB1:B=M+1
    ·refine Nat.le_trans (tally_list X1 fun x hx k=>?_) (by rw[hX1];simp)
     have k:=k.2
     split at k
     ·assumption
     ·split at k
      ·omega
      ·have:=(hM1 x hx).2;omega
    ·refine Nat.le_trans (tally_list X2 fun x hx k=>?_) (by rw[hX2];simp)
     have k:=k.2
     split at k
     ·omega
     ·split at k
      ·assumption
      ·have:=(hM1 x hx).2;omega
  ·refine Nat.le_trans (tally_list [d,m] fun x hx k=>?_) (by simp)
   have k:=k.1
   by_cases c:x=d∨x=m
   ·simpa using c
   ·rw[if_neg c] at k
    have:=(hM1 x hx).1;omega
end
end
end Go.Proofs.YtklkgicjfnbndaaGreat
