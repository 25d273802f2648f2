/- A chord, a star keep the genus and the parts. -/
import Derived.Test.YtklkgicjfnbndaaGreatZScriptDoes45
import Derived.Test.YtklkgicjfnbndaaGreatZScriptDoes44
import Derived.Test.YtklkgicjfnbndaaGreatZScriptDoes39
namespace Go.Proofs.YtklkgicjfnbndaaGreat
section
set_option linter.unusedVariables false
theorem sameRow_after {xss:List (List Nat)} {t d x y:Nat} (h:SameRow xss x y):SameRow (outL (aftF t d) xss) x y:=by
 obtain⟨v,hv,hx,hy⟩:=h
 have key:∀ z,z∈v→z∈v.flatMap (aftF t d):=fun z hz=>List.mem_flatMap.2 ⟨z,hz,by unfold aftF;split <;> simp⟩
 exact⟨_,List.mem_map.2 ⟨v,hv,rfl⟩,key x hx,key y hy⟩
theorem face_con {s:List Nat} (hs:IsPerm s) (hes:s.length % 2=0) {x y:Nat} (h:cyc s.length (at' (phiL s)) x y):Con s x y:=by
 have hp:=(phiL_perm hs hes).pm
 rw[phiL_length] at hp
 have ps:=Con.per hs
 refine hp.cyc_sub ps (fun z hz=>?_) h
 rw[phiL_at hz]
 exact ps.trans (Con.mate hs hes hz) (Con.step hs (xor_one_lt hes hz))
theorem orbit_at {s:List Nat} (hs:IsPerm s) {k:Nat} (hk:k<s.length) {j:Nat} (hj:j<(orbitL s k).length):at' s (at' (orbitL s k) j)=at' (orbitL s k) (nextI (orbitL s k).length j):=by
 obtain⟨c,hc,hcl,he⟩:=orbitL_map hs hk
 have hl:(orbitL s k).length=c:=by rw[he];simp
 have ha:∀ j,j<c→at' (orbitL s k) j=it s j k:=fun j hj=>by rw[he];simp[at',hj]
 have hsucc:∀ j,it s (j+1) k=at' s (it s j k):=fun j=>by rw[it_itf,it_itf,itf_succ]
 rw[hl] at hj ⊢
 unfold nextI
 by_cases e:j+1<c
 ·rw[if_pos e,ha j hj,ha _ e,hsucc]
 ·rw[if_neg e,ha j hj,ha 0 hc,←hsucc,show j+1=c by omega,hcl]
  rfl
theorem cls_true {n:Nat} {r:Nat→Nat→Prop}:cls r (fun _=>True) n=tally (Least r) n:=tally_congr fun x _=>⟨fun h=>h.2,fun h=>⟨trivial,h⟩⟩
section
variable {s : List Nat} (hs : IsPerm s) (hes : s.length % 2 = 0) {d e : Nat} (hd : d < s.length) (he : e < s.length)
include hs hes hd he
theorem chord_grown (hf:nth (namesL (phiL s)) (at' s d)=nth (namesL (phiL s)) (at' s e)):GrownL s (chordL s d e) 0 1:=by
 have hr:=chord_rows hs hd he
 have ht:=hr.isPerm
 have hl:(chordL s d e).length=s.length+2:=by unfold chordL;rw[behindL_length,leafL_length]
 have hee:(chordL s d e).length % 2=0:=by rw[hl];omega
 have pt:=Con.per ht
 have ps:=Con.per hs
 have n0:s.length ^^^ 1=s.length+1:=xor_add (k:=0) hes (by omega)
 have n1:(s.length+1) ^^^ 1=s.length:=xor_add (k:=1) hes (by omega)
 have hdl:=xor_one_lt hes hd
 have hel:=xor_one_lt hes he
 obtain⟨t,htt⟩:∃ t,(if d=e then s.length else e)=t:=⟨_,rfl⟩
 have htl:t≤s.length:=by rw[←htt];split <;> omega
 have cat:∀ y,y<s.length+2→at' (chordL s d e) y=insF (at' (leafL s d)) t (s.length+1) y:=fun y hy=>by
  unfold chordL
  rw[htt,behind_at (by rw[leafL_length];exact hy)]
 have lat:∀ y,y≤s.length→at' (leafL s d) y=insF (at' s) d s.length y:=fun y hy=>by rw[leaf_at hd (by omega),if_neg (by omega)]
 have ll:at' (leafL s d) (s.length+1)=s.length+1:=by rw[leaf_at hd (by omega),if_pos rfl]
 have lg:=leaf_grown hs hes hd
 have lfr:=leaf_faces hs hes hd
 have hlp:=phiL_perm lg.perm lg.even
 have hlpl:(phiL (leafL s d)).length=s.length+2:=by rw[phiL_length,leafL_length]
 have hpm:=hlp.pm
 rw[hlpl] at hpm
 have hcf:cyc s.length (at' (phiL s)) (at' s d) (at' s e):=by
  have h1:=(namesL_ord (phiL_perm hs hes)).rel (at' s d) (at' s e) (by rw[phiL_length];exact hs.lt hd) (by rw[phiL_length];exact hs.lt he)
  rw[phiL_length] at h1
  exact h1.1 hf
 have hcde:Con s d e:=ps.trans (Con.step hs hd) (ps.trans (face_con hs hes hcf) (ps.symm (Con.step hs he)))
 have stp:∀ x,x<s.length+2→cyc (s.length+2) (at' (phiL (leafL s d))) x (at' (phiL (leafL s d)) x):=fun x hx=>hpm.step hx
 have pp:=hpm.per
 have hdn:cyc (s.length+2) (at' (phiL (leafL s d))) (d ^^^ 1) s.length:=by
  have:=stp (d ^^^ 1) (by omega)
  rwa [leaf_phi hes hd (by omega),insF_o (by omega) (by omega),insF_t] at this
 have hone:cyc (s.length+2) (at' (phiL (leafL s d))) (t ^^^ 1) s.length:=by
  by_cases hde:d=e
  ·rw[if_pos hde] at htt
   rw[←htt,n0]
   have:=stp s.length (by omega)
   rw[leaf_phi hes hd (by omega),insF_t] at this
   exact pp.symm this
  ·rw[if_neg hde] at htt
   rw[←htt]
   refine pp.trans (pp.symm ?_) hdn
   have h0:=lists_rows (phiL_perm hs hes)
   have hq:(phiL s).length=s.length:=phiL_length s
   have hpq:=(phiL_perm hs hes).pm
   rw[hq] at hpq
   have hc:cyc s.length (at' (phiL s)) (d ^^^ 1) (e ^^^ 1):=by
    have c1:=hpq.step hdl
    rw[phiL_at hdl,xor_one_one] at c1
    have c2:=hpq.step hel
    rw[phiL_at hel,xor_one_one] at c2
    exact hpq.per.trans c1 (hpq.per.trans hcf (hpq.per.symm c2))
   have hsr:=(h0.cyc (phiL_perm hs hes) (x:=d ^^^ 1) (y:=e ^^^ 1) (by rw[hq];exact hdl) (by rw[hq];exact hel)).1 (by rw[hq];exact hc)
   rw[hq] at hsr
   have:=(lfr.cyc hlp (x:=d ^^^ 1) (y:=e ^^^ 1) (by rw[hlpl];omega) (by rw[hlpl];omega)).2 (sameRow_after (sameRow_after hsr))
   rwa [hlpl] at this
 have hx1:t ^^^ 1<s.length+2:=by
  by_cases h:t=s.length
  ·rw[h,n0];omega
  ·have:=xor_one_lt hes (show t<s.length by omega);omega
 have hne:t ^^^ 1≠s.length:=fun e0=>by
  have e1:t=s.length+1:=by rw[←xor_one_one t,e0,n0]
  omega
 have cphi:∀ y,y<s.length+2→at' (phiL (chordL s d e)) y=swp (at' (phiL (leafL s d))) (t ^^^ 1) s.length y:=fun y hy=>by
  have hyx:y ^^^ 1<s.length+2:=xor_one_lt (n:=s.length+2) (by omega) hy
  rw[phiL_at (by rw[hl];exact hy),cat _ hyx]
  unfold swp
  have e1:∀ z,z<s.length+2→at' (phiL (leafL s d)) z=at' (leafL s d) (z ^^^ 1):=fun z hz=>phiL_at (by rw[leafL_length];exact hz)
  by_cases h1:y=t ^^^ 1
  ·rw[if_pos h1,h1,xor_one_one,insF_t,e1 _ (by omega),n0,ll]
  ·have h1':y ^^^ 1≠t:=fun e0=>h1 (by rw[←e0,xor_one_one])
   rw[if_neg h1]
   by_cases h2:y=s.length
   ·rw[if_pos h2,h2,n0,insF_d (by omega),e1 _ hx1,xor_one_one]
   ·have h2':y ^^^ 1≠s.length+1:=fun e0=>h2 (by rw[←xor_one_one y,e0,n1])
    rw[if_neg h2,insF_o h1' h2',e1 _ hy]
 refine⟨ht,hee,?_,?_,?_,by rw[hl];omega⟩
 ·-- the parts
  have cstp:∀ x,x<s.length+2→Con (chordL s d e) x (at' (chordL s d e) x):=fun x hx=>Con.step ht (by rw[hl];exact hx)
  have tdn:Con (chordL s d e) d s.length:=by
   have:=cstp d (by omega)
   have hdt:d≠t:=fun e0=>by
    by_cases hde:d=e
    ·rw[if_pos hde] at htt;omega
    ·rw[if_neg hde] at htt;omega
   rwa [cat d (by omega),insF_o hdt (by omega),lat d (by omega),insF_t] at this
  have mnn:Con (chordL s d e) s.length (s.length+1):=by
   have:=Con.mate ht hee (x:=s.length) (by omega)
   rwa [n0] at this
  have tn1:Con (chordL s d e) (s.length+1) (at' (leafL s d) t):=by
   have:=cstp (s.length+1) (by omega)
   rwa [cat _ (by omega),insF_d (by omega)] at this
  have tt1:Con (chordL s d e) t (s.length+1):=by
   have:=cstp t (by omega)
   rwa [cat _ (by omega),insF_t] at this
  have tds:Con (chordL s d e) d (at' s d):=by
   by_cases hde:d=e
   ·rw[if_pos hde] at htt
    rw[←htt,lat _ (by omega),insF_d (by omega)] at tn1
    exact pt.trans tdn (pt.trans mnn tn1)
   ·rw[if_neg hde] at htt
    have:=cstp s.length (by omega)
    rw[cat _ (by omega),insF_o (by omega) (by omega),lat _ (by omega),insF_d (by omega)] at this
    exact pt.trans tdn this
  refine parts_grow hs hes ht hee (by omega) (fun x=>if x<s.length then x else d) (fun x hx=>if_pos hx) (fun x hx=>?_) (fun x hx=>?_) (fun x hx=>?_) (fun x hx=>?_) (fun x hx=>?_)
  ·show (if x<s.length then x else d)<s.length
   split <;> omega
  ·rw[hl] at hx
   show Con s (if x<s.length then x else d) (if at' (chordL s d e) x<s.length then at' (chordL s d e) x else d)
   have lstep:∀ x,x≤s.length→Con s (if x<s.length then x else d) (if at' (leafL s d) x<s.length then at' (leafL s d) x else d):=fun x hx=>by
    rw[lat x hx]
    by_cases h2:x=d
    ·rw[h2,insF_t,if_pos hd,if_neg (by omega)];exact ps.refl hd
    ·by_cases h3:x=s.length
     ·rw[h3,insF_d (by omega),if_neg (by omega),if_pos (hs.lt hd)];exact Con.step hs hd
     ·rw[insF_o h2 h3,if_pos (by omega),if_pos (hs.lt (by omega))];exact Con.step hs (by omega)
   have htd:Con s (if t<s.length then t else d) d:=by
    by_cases hde:d=e
    ·rw[if_pos hde] at htt
     rw[←htt,if_neg (by omega)];exact ps.refl hd
    ·rw[if_neg hde] at htt
     rw[←htt,if_pos he];exact ps.symm hcde
   rw[cat x hx]
   by_cases h1:x=t
   ·rw[h1,insF_t,if_neg (show ¬ s.length+1<s.length by omega)]
    exact htd
   ·by_cases h2:x=s.length+1
    ·rw[h2,insF_d (by omega),if_neg (show ¬ s.length+1<s.length by omega)]
     exact ps.trans (ps.symm htd) (lstep t htl)
    ·rw[insF_o h1 h2]
     exact lstep x (by omega)
  ·rw[hl] at hx
   show Con s (if x<s.length then x else d) (if x ^^^ 1<s.length then x ^^^ 1 else d)
   by_cases h1:x<s.length
   ·rw[if_pos h1,if_pos (xor_one_lt hes h1)];exact Con.mate hs hes h1
   ·obtain rfl|rfl:x=s.length∨x=s.length+1:=by omega
    ·rw[n0,if_neg (by omega),if_neg (by omega)];exact ps.refl hd
    ·rw[n1,if_neg (by omega),if_neg (by omega)];exact ps.refl hd
  ·by_cases h2:x=d
   ·rw[h2];exact tds
   ·by_cases h3:x=t
    ·have h4:=pt.trans tt1 tn1
     rw[←h3,lat x (by omega),insF_o h2 (by omega)] at h4
     exact h4
    ·have:=cstp x (by omega)
     rwa [cat _ (by omega),insF_o h3 (by omega),lat x (by omega),insF_o h2 (by omega)] at this
  ·rw[hl] at hx
   show Con (chordL s d e) (if x<s.length then x else d) x
   by_cases h1:x<s.length
   ·rw[if_pos h1];exact pt.refl (by omega)
   ·rw[if_neg h1]
    obtain rfl|rfl:x=s.length∨x=s.length+1:=by omega
    ·exact tdn
    ·exact pt.trans tdn mnn
 ·rw[hr.count ht (after_ne (after_ne (lists_ne hs))),outL_len,outL_len,lists_count hs]
  simp
 ·have hc:=hpm.swp_cls (P:=fun _=>True) (fun x _=>Iff.rfl) hx1 (by omega) hne trivial trivial
  rcases hc with ⟨h,_⟩|⟨_,h⟩
  ·exact absurd hone h
  ·have e1:=sizesL_tally (phiL_perm ht hee)
   have e2:=sizesL_tally hlp
   rw[phiL_length,hl] at e1
   rw[hlpl] at e2
   rw[cls_true,cls_true] at h
   have e3:tally (Least (cyc (s.length+2) (at' (phiL (chordL s d e))))) (s.length+2)=tally (Least (cyc (s.length+2) (swp (at' (phiL (leafL s d))) (t ^^^ 1) s.length))) (s.length+2):=by
    have hpc:=(phiL_perm ht hee).pm
    rw[phiL_length,hl] at hpc
    refine tally_congr fun x hx=>?_
    unfold Least
    exact⟨fun hL y hy hr=>hL y hy ((cyc_congr hpc cphi).2 hr),fun hL y hy hr=>hL y hy ((cyc_congr hpc cphi).1 hr)⟩
   have e4:=lg.fs
   rw[e1,e3]
   rw[e2] at e4
   omega
end
end
section
set_option linter.unusedVariables false
def triL (s O:List Nat) (j:Nat):List Nat:=[at' O j,s.length+2*nextI O.length j,s.length+2*j+1]
def trisL (s O:List Nat):Nat→List (List Nat)
 | 0=>[]
 | i+1=>trisL s O i ++ [triL s O i]
theorem trisL_length (s O:List Nat):∀ i,(trisL s O i).length=i
 | 0=>rfl
 | i+1=>by unfold trisL;rw[List.length_append,trisL_length s O i];rfl
theorem trisL_ne (s O:List Nat):∀ i v,v∈trisL s O i→v≠[]
 | 0,v,h=>by cases h
 | i+1,v,h=>by
  unfold trisL at h
  rcases List.mem_append.1 h with h|h
  ·exact trisL_ne s O i v h
  ·rw[List.mem_singleton.1 h];unfold triL;simp
theorem nextI_lt {n j:Nat} (h:j<n):nextI n j<n:=by unfold nextI;split <;> omega
theorem nextI_inj {n i j:Nat} (hi:i<n) (hj:j<n) (h:nextI n i=nextI n j):i=j:=by
 unfold nextI at h
 split at h <;> split at h <;> omega
theorem nextI_back {n j:Nat} (hj:j<n):(nextI n j+n-1) % n=j:=by
 unfold nextI
 split
 ·rw[show j+1+n-1=j+n by omega,Nat.add_mod_right,Nat.mod_eq_of_lt hj]
 ·rw[Nat.zero_add,Nat.mod_eq_of_lt (by omega)];omega
theorem star_phi_in {s O:List Nat} (hes:s.length % 2=0) {j:Nat} (hj:j<O.length):at' (phiL (starC s O)) (s.length+2*nextI O.length j)=s.length+2*j+1:=by
 have hn:=nextI_lt hj
 have e:(s.length+2*nextI O.length j) ^^^ 1=s.length+2*nextI O.length j+1:=xor_add (n:=s.length+2*nextI O.length j) (k:=0) (by omega) (by omega)
 rw[phiL_at (by rw[starC_length];omega),e,starC_at (by omega)]
 unfold starF
 rw[if_neg (by omega),if_neg (by omega),show (s.length+2*nextI O.length j+1-s.length) / 2=nextI O.length j by omega,nextI_back hj]
theorem star_phi_out {s O:List Nat} (hes:s.length % 2=0) {j:Nat} (hj:j<O.length):at' (phiL (starC s O)) (s.length+2*j+1)=at' O j:=by
 have e:(s.length+2*j+1) ^^^ 1=s.length+2*j:=xor_add (n:=s.length+2*j) (k:=1) (by omega) (by omega)
 rw[phiL_at (by rw[starC_length];omega),e,starC_at (by omega)]
 unfold starF
 rw[if_neg (by omega),if_pos (by omega),show (s.length+2*j-s.length) / 2=j by omega]
theorem starLs_length {s O:List Nat} (hs:IsPerm s):∀ i,(starLs s O i).length=(sizesL s).length
 | 0=>lists_count hs
 | i+1=>by unfold starLs;rw[outL_len];exact starLs_length hs i
theorem starLs_ne {s O:List Nat} (hs:IsPerm s):∀ i v,v∈starLs s O i→v≠[]
 | 0,v,h=>lists_ne hs v h
 | i+1,v,h=>after_ne (starLs_ne hs i) v h
section
variable {s : List Nat} (hs : IsPerm s) (hes : s.length % 2 = 0) {d : Nat} (hd : d < s.length) {O : List Nat} (hO : orbitL (phiL s) d = O)
include hs hes hd hO
theorem star_face:O.Nodup∧(∀ x,x∈O→x<s.length)∧0<O.length∧(∀ j,j<O.length→at' (phiL s) (at' O j)=at' O (nextI O.length j))∧(∀ x,x<s.length→(at' (phiL s) x∈O↔x∈O))∧∀ x,x∈O→Con s d x:=by
 have hp:=phiL_perm hs hes
 have hpl:=phiL_length s
 have hdp:d<(phiL s).length:=by rw[hpl];exact hd
 subst hO
 refine⟨orbitL_nodup hp hdp,fun x hx=>by rw[←hpl];exact orbitL_lt hp hdp x hx,?_,fun j hj=>orbit_at hp hdp hj,fun x hx=>hp.orbit_next hdp (by rw[hpl];exact hx),fun x hx=>?_⟩
 ·exact Nat.succ_pos _
 ·obtain⟨j,rfl⟩:=(hp.mem_orbit hdp).1 hx
  refine face_con hs hes ⟨hd,?_,j,(it_itf _ _ _).symm⟩
  rw[←hpl];exact hp.it_lt hdp j
theorem star_phi_old {y:Nat} (hy:y<s.length) (ho:y∉O):at' (phiL (starC s O)) y=at' (phiL s) y:=by
 obtain⟨k1,k2,k3,k4,k5,_⟩:=star_face hs hes hd hO
 have hyx:=xor_one_lt hes hy
 rw[phiL_at (by rw[starC_length];omega),starC_at (by omega),phiL_at hy]
 unfold starF
 rw[if_pos hyx,if_neg]
 rw[←phiL_at hy]
 exact fun h=>ho ((k5 y hy).1 h)
theorem star_phi_edge {j:Nat} (hj:j<O.length):at' (phiL (starC s O)) (at' O j)=s.length+2*nextI O.length j:=by
 obtain⟨k1,k2,k3,k4,k5,_⟩:=star_face hs hes hd hO
 have hy:=k2 (at' O j) (by rw[at'_eq hj];exact List.getElem_mem _)
 have hyx:=xor_one_lt hes hy
 rw[phiL_at (by rw[starC_length];omega),starC_at (by omega)]
 unfold starF
 have e:at' s (at' O j ^^^ 1)=at' O (nextI O.length j):=by rw[←phiL_at hy,k4 j hj]
 have hn:=nextI_lt hj
 rw[if_pos hyx,e,if_pos (by rw[at'_eq hn];exact List.getElem_mem _),idx_at k1 hn]
theorem star_tris {D:Nat→Prop} {xss:List (List Nat)} (h:RowsF xss D (at' (phiL (starC s O)))) (hD:∀ y,D y→y<s.length∧y∉O):∀ i,i≤O.length →
  RowsF (xss ++ trisL s O i) (fun y=>D y∨∃ j,j<i∧y∈triL s O j) (at' (phiL (starC s O)))
 | 0,_=>by
  unfold trisL
  rw[List.append_nil]
  exact h.congr (fun y=>⟨Or.inl,fun h=>h.elim id fun ⟨j,h,_⟩=>by omega⟩) fun _ _=>rfl
 | i+1,hi=>by
  obtain⟨k1,k2,k3,k4,k5,_⟩:=star_face hs hes hd hO
  have ih:=star_tris h hD i (by omega)
  have hil:i<O.length:=by omega
  have hn:=nextI_lt hil
  have ho:at' O i∈O:=by rw[at'_eq hil];exact List.getElem_mem _
  have hol:=k2 _ ho
  unfold trisL
  rw[←List.append_assoc]
  refine (ih.more (v:=triL s O i) ?_ (fun x hx=>?_) ?_ fun _ _=>rfl).congr (fun y=>?_) fun _ _=>rfl
  ·unfold triL;simp;omega
  ·rintro (h1|⟨j,hj,h1⟩)
   ·obtain⟨h2,h3⟩:=hD x h1
    unfold triL at hx
    simp only[List.mem_cons,List.not_mem_nil,or_false] at hx
    rcases hx with rfl|h4|h4
    ·exact h3 ho
    ·omega
    ·omega
   ·unfold triL at hx h1
    simp only[List.mem_cons,List.not_mem_nil,or_false] at hx h1
    have hjl:j<O.length:=by omega
    have hjo:=k2 _ (show at' O j∈O by rw[at'_eq hjl];exact List.getElem_mem _)
    have c1:at' O i≠at' O j:=fun e=>by
     rw[at'_eq hil,at'_eq hjl] at e
     have:=nodup_inj k1 _ _ e
     omega
    have c2:nextI O.length i≠nextI O.length j:=fun e=>by
     have:=nextI_inj hil hjl e
     omega
    rcases hx with rfl|rfl|rfl <;> rcases h1 with h1|h1|h1 <;> omega
  ·exact Cy.ch.2 ⟨star_phi_edge hs hes hd hO hil,star_phi_in hes hil,star_phi_out hes hil⟩
  ·constructor
   ·rintro ((h|⟨j,h1,h2⟩)|h)
    ·exact Or.inl h
    ·exact Or.inr ⟨j,by omega,h2⟩
    ·exact Or.inr ⟨i,by omega,h⟩
   ·rintro (h|⟨j,h1,h2⟩)
    ·exact Or.inl (Or.inl h)
    ·by_cases e:j=i
     ·exact Or.inr (e ▸ h2)
     ·exact Or.inl (Or.inr ⟨j,by omega,h2⟩)
theorem star_faces:∃ xss:List (List Nat),RowsOf (xss ++ trisL s O O.length) (phiL (starC s O))∧(∀ v,v∈xss→v≠[])∧xss.length+1=(sizesL (phiL s)).length:=by
 obtain⟨k1,k2,k3,k4,k5,_⟩:=star_face hs hes hd hO
 have hp:=phiL_perm hs hes
 have hpl:=phiL_length s
 have h0:=lists_rowsF hp
 rw[hpl] at h0
 have hro:=lists_rows hp
 rw[hpl] at hro
 obtain⟨v,hv,hdv⟩:=List.mem_flatten.1 ((h0.mem d).2 hd)
 have hpe:=List.perm_cons_erase hv
 have h1:=(h0.perm hpe).tail
 have hvO:∀ y,y<s.length→(y∈v↔y∈O):=fun y hy=>by
  have hc:=hro.cyc hp (x:=d) (y:=y) (by rw[hpl];exact hd) (by rw[hpl];exact hy)
  rw[←hO,hp.mem_orbit (by rw[hpl];exact hd)]
  constructor
  ·intro h
   obtain⟨_,_,j,e⟩:=hc.2 ⟨v,hv,hdv,h⟩
   exact⟨j,by rw[it_itf];exact e⟩
  ·rintro⟨j,e⟩
   obtain⟨u,hu,h4,h5⟩:=hc.1 ⟨by rw[hpl];exact hd,by rw[hpl];exact hy,j,by rw[←it_itf];exact e⟩
   have:=h0.uni hu hv h4 hdv
   subst this
   exact h5
 have h2:=h1.congr (E:=fun y=>y<s.length∧y∉O) (g:=at' (phiL (starC s O))) (fun y=>⟨fun h=>⟨h.1,fun ho=>h.2 ((hvO y h.1).2 ho)⟩,fun h=>⟨h.1,fun ho=>h.2 ((hvO y h.1).1 ho)⟩⟩) (fun y hy=>star_phi_old hs hes hd hO hy.1 (fun ho=>hy.2 ((hvO y hy.1).2 ho)))
 have h3:=star_tris hs hes hd hO h2 (fun y hy=>hy) O.length (Nat.le_refl _)
 have hne:=lists_phi_ne hs hes
 refine⟨(listsL (phiL s) s.length).erase v,h3.rows (fun y=>?_) (fun y _=>rfl),fun u hu=>hne u (List.mem_of_mem_erase hu),?_⟩
 ·rw[phiL_length,starC_length]
  constructor
  ·rintro (h|⟨j,hj,h⟩)
   ·omega
   ·unfold triL at h
    simp only[List.mem_cons,List.not_mem_nil,or_false] at h
    have hn:=nextI_lt hj
    have hjo:=k2 _ (show at' O j∈O by rw[at'_eq hj];exact List.getElem_mem _)
    rcases h with h|h|h <;> omega
  ·intro h
   by_cases c1:y<s.length
   ·by_cases c2:y∈O
    ·obtain⟨j,hj,e⟩:=List.getElem_of_mem c2
     refine Or.inr ⟨j,hj,?_⟩
     unfold triL
     rw[at'_eq hj,e]
     exact List.mem_cons_self ..
    ·exact Or.inl ⟨c1,c2⟩
   ·by_cases c2:(y-s.length) % 2=0
    ·obtain⟨i,hi⟩:∃ i,(y-s.length) / 2=i:=⟨_,rfl⟩
     have hil:i<O.length:=by omega
     obtain⟨j,hj,hji⟩:∃ j,j<O.length∧nextI O.length j=i:=by
      by_cases c3:i=0
      ·exact⟨O.length-1,by omega,by unfold nextI;rw[if_neg (by omega),c3]⟩
      ·exact⟨i-1,by omega,by unfold nextI;rw[if_pos (by omega)];omega⟩
     refine Or.inr ⟨j,hj,?_⟩
     unfold triL
     rw[hji]
     simp only[List.mem_cons,List.not_mem_nil,or_false]
     omega
    ·refine Or.inr ⟨(y-s.length) / 2,by omega,?_⟩
     unfold triL
     simp only[List.mem_cons,List.not_mem_nil,or_false]
     omega
 ·rw[List.length_erase_of_mem hv,lists_phi hs hes]
  have:0<(listsL (phiL s) s.length).length:=List.length_pos_of_mem hv
  rw[lists_phi hs hes] at this
  omega
theorem star_grown:GrownL s (starC s O) 1 (O.length-1):=by
 obtain⟨k1,k2,k3,k4,k5,k6⟩:=star_face hs hes hd hO
 have hr:=star_rows hs k1 k2 k3
 have ht:=hr.isPerm
 have hl:=starC_length s O
 have he:(starC s O).length % 2=0:=by rw[hl];omega
 have pt:=Con.per ht
 have ps:=Con.per hs
 have mem:∀ i,i<O.length→at' O i∈O:=fun i hi=>by rw[at'_eq hi];exact List.getElem_mem _
 have val:∀ x,x<s.length+2*O.length→at' (starC s O) x=starF s O x:=fun x hx=>starC_at hx
 have ev:∀ i,i<O.length→at' (starC s O) (s.length+2*i)=at' O i:=fun i hi=>by
  rw[val _ (by omega)];unfold starF
  rw[if_neg (by omega),if_pos (by omega),show (s.length+2*i-s.length) / 2=i by omega]
 have od:∀ i,i<O.length→at' (starC s O) (s.length+2*i+1)=s.length+2*((i+O.length-1) % O.length)+1:=fun i hi=>by
  rw[val _ (by omega)];unfold starF
  rw[if_neg (by omega),if_neg (by omega),show (s.length+2*i+1-s.length) / 2=i by omega]
 have stp:∀ x,x<s.length+2*O.length→Con (starC s O) x (at' (starC s O) x):=fun x hx=>Con.step ht (by rw[hl];exact hx)
 have cv:∀ i,i<O.length→Con (starC s O) (at' O i) (s.length+2*i):=fun i hi=>by
  have:=stp (s.length+2*i) (by omega)
  rw[ev i hi] at this
  exact pt.symm this
 have me:∀ i,(s.length+2*i) ^^^ 1=s.length+2*i+1:=fun i=>xor_add (n:=s.length+2*i) (k:=0) (by omega) (by omega)
 have mo:∀ i,(s.length+2*i+1) ^^^ 1=s.length+2*i:=fun i=>xor_add (n:=s.length+2*i) (k:=1) (by omega) (by omega)
 have split:∀ x,x<s.length+2*O.length→x<s.length∨∃ i,i<O.length∧(x=s.length+2*i∨x=s.length+2*i+1):=fun x hx=>by
  by_cases h:x<s.length
  ·exact Or.inl h
  ·exact Or.inr ⟨(x-s.length) / 2,by omega,by omega⟩
 obtain⟨π,hπ⟩:∃ π:Nat→Nat,π=fun x=>if x<s.length then x else at' O ((x-s.length) / 2):=⟨_,rfl⟩
 have pold:∀ x,x<s.length→π x=x:=fun x hx=>by rw[hπ];exact if_pos hx
 have pe:∀ i,π (s.length+2*i)=at' O i:=fun i=>by
  rw[hπ]
  show (if s.length+2*i<s.length then _ else _)=_
  rw[if_neg (by omega),show (s.length+2*i-s.length) / 2=i by omega]
 have po:∀ i,π (s.length+2*i+1)=at' O i:=fun i=>by
  rw[hπ]
  show (if s.length+2*i+1<s.length then _ else _)=_
  rw[if_neg (by omega),show (s.length+2*i+1-s.length) / 2=i by omega]
 refine⟨ht,he,?_,?_,?_,by rw[hl];omega⟩
 ·refine parts_grow hs hes ht he (by omega) π pold (fun x hx=>?_) (fun x hx=>?_) (fun x hx=>?_) (fun x hx=>?_) (fun x hx=>?_)
  ·rw[hl] at hx
   rcases split x hx with h|⟨i,hi,rfl|rfl⟩
   ·rw[pold x h];exact h
   ·rw[pe];exact k2 _ (mem i hi)
   ·rw[po];exact k2 _ (mem i hi)
  ·rw[hl] at hx
   rcases split x hx with h|⟨i,hi,rfl|rfl⟩
   ·rw[val x hx,pold x h]
    unfold starF
    rw[if_pos h]
    by_cases h1:at' s x∈O
    ·have hi:=List.idxOf_lt_length_of_mem h1
     rw[if_pos h1,pe,at'_eq hi,List.getElem_idxOf hi]
     exact Con.step hs h
    ·rw[if_neg h1,pold _ (hs.lt h)]
     exact Con.step hs h
   ·rw[ev i hi,pe,pold _ (k2 _ (mem i hi))]
    exact ps.refl (k2 _ (mem i hi))
   ·have hm:=Nat.mod_lt (i+O.length-1) k3
    rw[od i hi,po,po]
    exact ps.trans (ps.symm (k6 _ (mem i hi))) (k6 _ (mem _ hm))
  ·rw[hl] at hx
   rcases split x hx with h|⟨i,hi,rfl|rfl⟩
   ·rw[pold x h,pold _ (xor_one_lt hes h)];exact Con.mate hs hes h
   ·rw[me,pe,po];exact ps.refl (k2 _ (mem i hi))
   ·rw[mo,pe,po];exact ps.refl (k2 _ (mem i hi))
  ·have:=stp x (by omega)
   rw[val x (by omega)] at this
   unfold starF at this
   rw[if_pos hx] at this
   by_cases h1:at' s x∈O
   ·have hi:=List.idxOf_lt_length_of_mem h1
    rw[if_pos h1] at this
    have h2:=cv _ hi
    rw[at'_eq hi,List.getElem_idxOf hi] at h2
    exact pt.trans this (pt.symm h2)
   ·rwa [if_neg h1] at this
  ·rw[hl] at hx
   rcases split x hx with h|⟨i,hi,rfl|rfl⟩
   ·rw[pold x h];exact pt.refl (by rw[hl];exact hx)
   ·rw[pe];exact cv i hi
   ·rw[po]
    have:=Con.mate ht he (x:=s.length+2*i) (by rw[hl];omega)
    rw[me] at this
    exact pt.trans (cv i hi) this
 ·rw[hr.count ht (fun v hv=>by
   rcases List.mem_append.1 hv with hv|hv
   ·exact starLs_ne hs _ v hv
   ·rw[List.mem_singleton.1 hv]
    intro e
    have:=hubL_length s.length O.length
    rw[e] at this
    simp at this
    omega),List.length_append,starLs_length hs]
  simp
 ·obtain⟨xss,h1,h2,h3⟩:=star_faces hs hes hd hO
  rw[h1.count (phiL_perm ht he) (fun v hv=>(List.mem_append.1 hv).elim (h2 v) (trisL_ne s O _ v)),List.length_append,trisL_length]
  omega
end
end
section
open Go.RowKit
set_option linter.unusedVariables false
set_option maxRecDepth 100000 in
set_option maxHeartbeats 2000000 in
theorem do_star (R:Reg) (w:World) (hI:Inv R w) (v:Value) (s:List Nat) (root lone:Int) (hv:FreeI R w v (toI s)) (hS:IsPerm s) (hn:s.length≤99000) (hev:s.length % 2=0) (d:Nat) (hd:d<s.length) (hob:s.length+2*(orbitL (phiL s) d).length≤99000) (e:Int):
  Calls Tryz.prog 75 #[refV v root lone,.int .i64 3,.int .i64 (d:Int),.int .i64 e] w (RetDo R w (starC s (orbitL (phiL s) d)) root lone):=by
 obtain⟨a0,c0,rfl,_⟩:=hv.open
 rw[toI_length] at hv ⊢
 unfold refV
 have hp:=phiL_perm hS hev
 have hpl:=phiL_length s
 have hdm:=xor_one_lt hev hd
 have hmm:d ^^^ 1<s.length:=hdm
 have HOd:=Lib.hid (fun w' v' (hI':Inv R w') (h:FreeI R w' v' (toI (phiL s)))=>rorbit_any R w' hI' v' (phiL s) h hp (by omega) d (by rw[hpl];exact hd))
 obtain⟨q1,q2,q3,_⟩:=star_face hS hev hd rfl
 have HPh:=Lib.hid (fun w' (he:Ev R w R w')=>rphi_any R w' he.inv _ s root lone (hv.ev he) (by omega) hev)
 have HNm:=Lib.hid (fun w' v' (hI':Inv R w') (h:FreeI R w' v' (toI (phiL s)))=>rnames_any R w' hI' v' (phiL s) h hp (by omega))
 have HIv:=Lib.hid (fun w' (he:Ev R w R w')=>rinverse_any R w' he.inv _ s (hv.ev he) hS (by omega))
 have HMt:=Lib.hid (fun w'=>rmate_any w' d (by omega))
 have HLs:=Lib.hid (fun w' (he:Ev R w R w')=>r23lists_any R w' he.inv _ s root lone (hv.ev he) hS (by omega))
 have hsm:=lists_sm hS (by omega)
 have hll:=Nat.le_trans (listsL_len s s.length) (Nat.le_trans hn (by decide:99000≤99000))
 have hivl:=invL_length s
 have he0:Ev R w R (w.alloc (.cells #[.slice a0 s.length c0,.int .i64 root,.int .i64 lone] 27)):=(Ev.refl hI).alloc _
 have he01:Ev R (w.alloc (.cells #[.slice a0 s.length c0,.int .i64 root,.int .i64 lone] 27)) R ((w.alloc (.cells #[.slice a0 s.length c0,.int .i64 root,.int .i64 lone] 27)).alloc (.cells #[.slice none 0 0,.int .i64 0,.int .i64 0] 27)):=(Ev.refl he0.inv).alloc _
 have he1:Ev R w R ((w.alloc (.cells #[.slice a0 s.length c0,.int .i64 root,.int .i64 lone] 27)).alloc (.cells #[.slice none 0 0,.int .i64 0,.int .i64 0] 27)):=he0.trans he01
 have hn1:R w.heap.size=none:=hI.none_of_ge (Nat.le_refl _)
 have hB1:=fun w' (h:Ev R ((w.alloc (.cells #[.slice a0 s.length c0,.int .i64 root,.int .i64 lone] 27)).alloc (.cells #[.slice none 0 0,.int .i64 0,.int .i64 0] 27)) R w')=>(he01.trans h).boxC3 (heap_alloc_new w _) hn1
 have hB2:=fun w' (h:Ev R ((w.alloc (.cells #[.slice a0 s.length c0,.int .i64 root,.int .i64 lone] 27)).alloc (.cells #[.slice none 0 0,.int .i64 0,.int .i64 0] 27)) R w')=>h.boxC3 (heap_alloc_new (w.alloc (.cells #[.slice a0 s.length c0,.int .i64 root,.int .i64 lone] 27)) (.cells #[.slice none 0 0,.int .i64 0,.int .i64 0] 27)) (he0.inv.none_of_ge (Nat.le_refl _))
 have hza:((w.alloc (.cells #[.slice a0 s.length c0,.int .i64 root,.int .i64 lone] 27)).alloc (.cells #[.slice none 0 0,.int .i64 0,.int .i64 0] 27)).heap.size=w.heap.size+2:=by simp
 rw[World.size_alloc] at hB2
 obtain⟨n,hnn⟩:∃ n,s.length=n:=⟨_,rfl⟩
 obtain⟨m,hm⟩:∃ m,d ^^^ 1=m:=⟨_,rfl⟩
 obtain⟨xss,hxs⟩:∃ x,listsL s s.length=x:=⟨_,rfl⟩
 have HXs:=Lib.hid hxs
 rw[hnn] at hxs
 rw[hm] at HMt hmm
 rw[HXs.out] at hsm hll
 rw[hnn,hxs] at HLs
 rw[hnn] at HPh HIv he0 he01 he1 hB1 hB2 hza hpl hivl hn hd hev hmm ⊢
 obtain⟨pf,hpf⟩:∃ p,phiL s=p:=⟨_,rfl⟩
 rw[hpf] at HPh HNm HOd hpl q1 q2 q3 hob ⊢
 obtain⟨O,hO⟩:∃ O,orbitL pf d=O:=⟨_,rfl⟩
 rw[hO] at HOd q1 q2 q3 hob ⊢
 obtain⟨k,hk⟩:∃ k,O.length=k:=⟨_,rfl⟩
 have HKl:=Lib.hid hk
 have hrw0:=star_rows hS q1 q2 q3
 have HPf:=Lib.hid hpf
 have HO:=Lib.hid q1
 have HOl:=Lib.hid q2
 rw[hk] at hob q3 hrw0
 rw[hnn] at hob hrw0 q2
 have HRw:=Lib.hid hrw0
 have HTl:=Lib.hid (show (starC s O).length=n+2*k by rw[starC_length,hnn,hk])
 clear hrw0 hpf hO hk q1 q2
 have HNn:=Lib.hid hnn
 have HMe:=Lib.hid hm
 have HS:=Lib.hid hS
 have HSm:=Lib.hid hsm
 have HLl:=Lib.hid hll
 have HHv:=Lib.hid hv
 clear hI hv hS hnn hm hsm hll hxs hp
 go_enter Tryz.func75,Tryz.ntmps75
 go_upto_region 1 with fail
 obtain⟨wa,hwa⟩:∃ wa,(w.alloc (.cells #[.slice a0 n c0,.int .i64 root,.int .i64 lone] 27)).alloc (.cells #[.slice none 0 0,.int .i64 0,.int .i64 0] 27)=wa:=⟨_,rfl⟩
 try rw[hwa] at he1 hB1 hB2 hza ⊢
 have HB1:=Lib.hid (fun w' (h:Ev R wa R w')=>boxC_cells (hB1 w' h).1)
 have HB2:=Lib.hid hB2
 have HZa:=Lib.hid hza
 have HEa:=Lib.hid he1
 obtain⟨x0,x1,x2,_⟩:=HB1.out _ (Ev.refl he1.inv)
 have hdr:decide ((d:Int)<0)=false:=by simp
 have hdr2:decide ((n:Int)≤(d:Int))=false:=by simp;omega
 clear he0 he01 he1 hB1 hB2 hza hwa hn1
 go_wp2_with fail
 refine (HPh.out _ HEa.out).mono ?_
 rintro z w2 ⟨v2,rfl,he2,ho2⟩
 obtain⟨a2,c2,rfl,_⟩:=ho2.ints.open
 rw[toI_length,hpl] at ho2 ⊢
 have HE2:=Lib.hid he2
 have HO2:=Lib.hid ho2
 clear he2 ho2 x0 x1 x2
 go_wp2_with fail
 refine (HNm.out _ _ HE2.out.inv HO2.out.free).mono ?_
 rintro z w3 ⟨v3,rfl,he3,ho3⟩
 obtain⟨a3,c3,rfl,_⟩:=ho3.ints.open
 rw[namesL_length,hpl] at ho3 ⊢
 have HE3:=Lib.hid (HE2.out.trans he3)
 have HO3:=Lib.hid ho3
 have HO2:=Lib.hid (HO2.out.ev he3)
 obtain⟨x0,x1,x2,_⟩:=HB1.out w3 HE3.out
 clear he3 ho3
 go_wp2_with fail
 refine (HIv.out _ (HEa.out.trans HE3.out)).mono ?_
 rintro z w4 ⟨v4,rfl,he4,ho4⟩
 obtain⟨a4,c4,rfl,_⟩:=ho4.ints.open
 rw[toI_length,hivl] at ho4 ⊢
 have HE4:=Lib.hid (HE3.out.trans he4)
 have HO4:=Lib.hid ho4
 have HO2:=Lib.hid (HO2.out.ev he4)
 have HO3:=Lib.hid (HO3.out.ev he4)
 clear he4 ho4 x0 x1 x2
 go_wp2_with fail
 refine (HMt.out _).mono ?_
 rintro z w4' ⟨rfl,rfl⟩
 obtain⟨x0,x1,x2,_⟩:=HB1.out w4 HE4.out
 go_wp2_with fail
 refine (HLs.out _ (HEa.out.trans HE4.out)).mono ?_
 rintro z w5 ⟨a5,c5,vs5,rfl,he5,hov5,hrw5⟩
 have hR5:RowsAt R w4.heap.size w5 (.slice a5 xss.length c5) xss:=⟨a5,c5,vs5,rfl,hov5,hrw5⟩
 have HE5:=Lib.hid (HE4.out.trans he5)
 have HR5:=Lib.hid hR5
 have HO2:=Lib.hid (HO2.out.ev he5)
 have HO3:=Lib.hid (HO3.out.ev he5)
 have HO4:=Lib.hid (HO4.out.ev he5)
 obtain⟨l5,hl5⟩:∃ l,xss.length=l:=⟨_,rfl⟩
 try rw[hl5]
 rw[hl5] at HR5
 have HL5:=Lib.hid hl5
 have HLb:=Lib.hid (show l5≤99000 by rw[←hl5];exact HLl.out)
 have HSz45:=Lib.hid he5.size
 clear he5 hov5 hrw5 hR5 hl5 x0 x1 x2
 go_wp2_with fail
 refine (HOd.out _ _ HE5.out.inv HO2.out.free).mono ?_
 rintro z w6 ⟨v6,rfl,he6,ho6⟩
 obtain⟨a6,c6,rfl,_⟩:=ho6.ints.open
 rw[toI_length,HKl.out] at ho6 ⊢
 have HE6:=Lib.hid (HE5.out.trans he6)
 have HO6:=Lib.hid ho6
 have HO4:=Lib.hid (HO4.out.ev he6)
 have HR6:=Lib.hid (HR5.out.ev he6)
 have HSz46:=Lib.hid (show w4.heap.size≤w6.heap.size from Nat.le_trans HSz45.out he6.size)
 clear he6 ho6
 obtain⟨g6,rfl,_⟩:=HO6.out.headAt (by rw[toI_length];exact HKl.out) q3
 obtain⟨g4,rfl,_⟩:=HO4.out.headAt (by rw[toI_length];exact hivl) hd
 have HSs:=Lib.hid (fun i (hi:i≤k)=>(by
  refine (starLs_rows HS.out HO.out HOl.out i (by rw[HKl.out];exact hi)).sm (N:=n+2*k) (fun y hy=>?_) (by omega) ?_
  ·have:=HNn.out
   rcases hy with h|⟨j,h1,h2⟩ <;> omega
  ·rw[starLs_len,HXs.out]
   have:=HLl.out
   omega:RowsSm (starLs s O i)))
 have HS0:=Lib.hid (show starLs s O 0=xss from HXs.out)
 have HSl:=Lib.hid (fun i=>(by rw[starLs_len,HXs.out];exact HL5.out:(starLs s O i).length=l5))
 go_wp2_with fail
 go_loopg [10,15,16,121] k (fun g v10 v15 v16 v121 wr=>∃ (i q:Nat) (a16:Option Addr) (c16:Nat),i≤k∧k-i≤g∧v121=.int .i64 (i:Int)∧v10=.int .i64 (q:Int)∧q=n+2*i∧v16=.slice a16 i c16∧(i=0→a16=none)∧Ev R w6 R wr∧RowsAt R w4.heap.size wr v15 (starLs s O i)∧RowOk R wr (fun b=>v15.ownBlock=some b) (.slice a16 i c16) (hubL n i))
 case atStart=>exact⟨0,n,none,0,Nat.zero_le _,by omega,rfl,rfl,by omega,rfl,fun _=>rfl,Ev.refl HE6.out.inv,by rw[HS0.out];exact HR6.out,RowOk.nil _ _ _⟩
 case round=>
  obtain⟨i,q,a16,c16,hik,hg,rfl,rfl,hq,rfl,ha0,hev,hra,hro⟩:=hrel
  have HE:=Lib.hid hev
  have HQ:=Lib.hid hq
  have HA0:=Lib.hid ha0
  have HRo:=Lib.hid hro
  obtain⟨a15,c15,vs15,rfl,hov15,hrw15⟩:=hra
  rw[HSl.out] at hov15 hrw15 HRo ⊢
  have hr15:RowsAt R w4.heap.size wr (.slice a15 l5 c15) (starLs s O i):=⟨a15,c15,vs15,by rw[HSl.out],by rw[HSl.out];exact hov15,by rw[HSl.out];exact hrw15⟩
  have HR15:=Lib.hid hr15
  have HV15:=Lib.hid hov15
  have HW15:=Lib.hid hrw15
  have hqb:q≤99000:=by omega
  clear hev hq ha0 hro hov15 hrw15 hr15
  by_cases hi:i<k
  ·have hir:(i:Int)<(k:Int):=by omega
   obtain⟨g6',e6,_,_,hc6,_⟩:=(HO6.out.ev HE.out).headAt (by rw[toI_length];exact HKl.out) hi
   cases e6
   rw[toI_nth] at hc6
   obtain⟨y,hy⟩:∃ y,at' O i=y:=⟨_,rfl⟩
   have hyl:y<n:=by rw[←hy,←HNn.out];exact HOl.out _ (by rw[at'_eq (by rw[HKl.out];exact hi)];exact List.getElem_mem _)
   rw[hy] at hc6
   obtain⟨g4',e4,_,_,hc4,_⟩:=(HO4.out.ev HE.out).headAt (by rw[toI_length];exact hivl) hyl
   cases e4
   rw[toI_nth] at hc4
   obtain⟨t,ht⟩:∃ t,at' (invL s) y=t:=⟨_,rfl⟩
   rw[ht] at hc4
   have htl:t≤1000000:=by
    have:=(at_invL HS.out (y:=y) (by rw[HNn.out];exact hyl)).2
    rw[ht,HNn.out] at this
    omega
   have HSt:=Lib.hid (show starLs s O (i+1)=outL (aftF t q) (starLs s O i) by
    have e:starLs s O (i+1)=outL (aftF (at' (invL s) (at' O i)) (s.length+2*i)) (starLs s O i):=rfl
    rw[e,hy,ht,HNn.out,←HQ.out])
   have HHb:=Lib.hid (show hubL n (i+1)=(q+1) :: hubL n i by
    have e:hubL n (i+1)=(n+2*i+1) :: hubL n i:=rfl
    rw[e,HQ.out])
   have hyr:(y:Int)<(n:Int):=by omega
   clear hy ht
   go_wp2_with fail
   refine (after_any R _ HE.out.inv _ _ _ HR15.out (HSs.out i hik) t q htl (by omega)).mono ?_
   rintro z w7 ⟨a7,c7,vs7,rfl,he7,hov7,hrw7⟩
   have hL7:(outL (aftF t q) (starLs s O i)).length=l5:=by rw[outL_length];exact HSl.out i
   rw[hL7] at hov7 hrw7 ⊢
   have HE7:=Lib.hid (HE.out.trans he7)
   have HS7:=Lib.hid he7.size
   have HV7:=Lib.hid hov7
   have HW7:=Lib.hid hrw7
   have HRo7:=Lib.hid (HRo.out.ev he7)
   clear he7 hov7 hrw7 hc6 hc4
   have hE8:Ev R w7 R (w7.alloc (.cells #[.int .i64 ((q:Int)+1)] 3)):=(Ev.refl HE7.out.inv).alloc _
   have hO8:=OwnI.lit1 (B:=w7.heap.size) HE7.out.inv (Nat.le_refl _) ((q:Int)+1)
   have HE8:=Lib.hid hE8
   have HO8:=Lib.hid hO8
   clear hE8 hO8
   by_cases hi0:i=0
   ·have h16:=HA0.out hi0
    subst hi0
    subst h16
    go_wp2_with (at_builtin;refine wpList_app_none rfl _ _ rfl (a1:=some ⟨w7.heap.size,0,none⟩) (n:=1) (c:=1) (a2:=none) (c2:=c16) ?y0 ?y1 ?y2 ?_)
    try (case y0=>first|rfl|simp)
    try (case y1=>first|rfl|simp)
    try (case y2=>first|rfl|simp)
    have hra9:RowsAt R w4.heap.size (w7.alloc (.cells #[.int .i64 ((q:Int)+1)] 3)) (.slice a7 l5 c7) (starLs s O 1):=by
     rw[HSt.out]
     have h:RowsAt R wr.heap.size w7 (.slice a7 l5 c7) (outL (aftF t q) (starLs s O 0)):=⟨a7,c7,vs7,by rw[outL_length,HSl.out],by rw[outL_length,HSl.out];exact HV7.out,by rw[outL_length,HSl.out];exact HW7.out⟩
     exact (h.ev HE8.out).mono (by have:=HE.out.size;have:=HE6.out.size;have:=HSz46.out;omega)
    have hro9:RowOk R (w7.alloc (.cells #[.int .i64 ((q:Int)+1)] 3)) (fun b=>(Value.slice a7 l5 c7).ownBlock=some b) (.slice (some ⟨w7.heap.size,0,none⟩) 1 1) (hubL n 1):=by
     rw[HHb.out]
     exact rowOk_lit1 (x:=q+1) HE7.out.inv (by omega) HV7.out
    have HRA9:=Lib.hid hra9
    have HRO9:=Lib.hid hro9
    clear hra9 hro9
    go_wp2_with fail
    go_roundg (k-1)
    case measure=>omega
    case rel=>exact⟨1,q+2,_,1,by omega,by omega,by go_num,by go_num,by have:=HQ.out;omega,rfl,fun h=>by omega,HE7.out.trans HE8.out,HRA9.out,HRO9.out⟩
   ·obtain⟨a16',c16',e16,hf16,hb16⟩:=HRo7.out
    rw[hubL_length] at e16 hf16
    cases e16
    obtain⟨bh,oh,rfl,_⟩:=hf16.at (i:=0) (by rw[hubL_length];omega)
    have HF16:=Lib.hid (hf16.ev HE8.out)
    have hcells:∀ j,j<i→(w7.alloc (.cells #[.int .i64 ((q:Int)+1)] 3)).cell? ((⟨bh,oh,none⟩:Addr).add j)=some (.int .i64 (nth (toI (hubL n i)) j)):=fun j hj=>by
     obtain⟨b',o',e',h'⟩:=HF16.out.at (i:=j) (by rw[hubL_length];exact hj)
     simp only[Option.some.injEq,Addr.mk.injEq,and_true] at e'
     obtain⟨rfl,rfl⟩:=e'
     rw[toI_nth]
     by_cases hj0:j=0
     ·subst hj0;simpa [Addr.add] using h'
     ·simpa [Addr.add,hj0] using h'
    have hlen9:[(q:Int)+1].length+i≤8388608:=by simp;omega
    clear hf16 hb16
    go_wp2_with (at_builtin;refine wpList_app_ints (R:=R) (B:=w7.heap.size) rfl _ _ rfl HO8.out rfl ⟨bh,oh,none⟩ i c16 (toI (hubL n i)) ?y0 ?y1 ?y2 ?y3 ?y4 ?y5 ?_)
    case y0=>rw[toI_length,hubL_length]
    try (case y1=>first|rfl|simp)
    case y2=>exact hcells
    case y3=>exact hlen9
    case y4=>exact HE8.out.size
    case y5=>exact fun q' hq'=>HE8.out.inv.none_of_ge hq'
    intro v9 w9 ho9 hg9 hs9
    have hE9:=HE8.out.app HO8.out (Nat.le_refl _) hg9
    have e9:((q:Int)+1) :: toI (hubL n i)=toI (hubL n (i+1)):=by rw[HHb.out];simp[toI]
    try simp only[List.cons_append,List.nil_append] at ho9
    rw[e9] at ho9
    obtain⟨a9,c9,rfl,_⟩:=ho9.ints.open
    rw[toI_length,hubL_length] at ho9 ⊢
    have hra9:RowsAt R w4.heap.size w9 (.slice a7 l5 c7) (starLs s O (i+1)):=by
     rw[HSt.out]
     have h:RowsAt R wr.heap.size w7 (.slice a7 l5 c7) (outL (aftF t q) (starLs s O i)):=⟨a7,c7,vs7,by rw[outL_length,HSl.out],by rw[outL_length,HSl.out];exact HV7.out,by rw[outL_length,HSl.out];exact HW7.out⟩
     exact (h.ev hE9).mono (by have:=HE.out.size;have:=HE6.out.size;have:=HSz46.out;omega)
    have hro9:RowOk R w9 (fun b=>(Value.slice a7 l5 c7).ownBlock=some b) (.slice a9 (i+1) c9) (hubL n (i+1)):=rowOk_new ho9 (hubL_length n (i+1)) HV7.out
    have HRA9:=Lib.hid hra9
    have HRO9:=Lib.hid hro9
    have HE9:=Lib.hid (HE7.out.trans hE9)
    clear hra9 hro9 hE9 ho9 hg9 hs9 e9
    go_wp2_with fail
    go_roundg (k-(i+1))
    case measure=>omega
    case rel=>exact⟨i+1,q+2,a9,c9,by omega,by omega,by go_num,by go_num,by have:=HQ.out;omega,rfl,fun h=>by omega,HE9.out,HRA9.out,HRO9.out⟩
  ·obtain rfl:i=k:=by omega
   have HE8:=Lib.hid ((Ev.refl HE.out.inv).alloc (.cells #[.slice a16 i c16] 25))
   have HV8:=Lib.hid (HV15.out.ev HE8.out)
   have HW8:=Lib.hid (HW15.out.ev HE8.out)
   have HRo8:=Lib.hid (HRo.out.ev HE8.out)
   have HEx:=Lib.hid (HE6.out.trans (HE.out.trans HE8.out))
   have HSx:=Lib.hid HSz46.out
   go_wp2_with (at_builtin;refine wpList_app_row 134 25 1 24 nilS Tryz.underlying134 islice_info rfl (by decide) (by decide) rfl _ _ rfl HV8.out rfl ⟨wr.heap.size,0,none⟩ 1 1 [.slice a16 i c16] rfl ?z0 ?z1 ?z2 ?z3 ?z4 ?z5 ?_)
   try (case z0=>first|rfl|simp)
   case z1=>exact one_cell _ _
   case z2=>exact one_one _ _ _
   case z3=>have:=HLb.out;omega
   case z4=>have:=HSx.out;have:=HE8.out.size;have:=HE.out.size;omega
   case z5=>exact fun q hq=>HE8.out.inv.none_of_ge hq
   intro v8' w8 ho8 hg8 hs8
   have hra8:=rows_next (xss:=starLs s O i) (HSl.out i).symm HW8.out HRo8.out ho8 hg8 (fun q hq=>(hs8 q hq).imp id (fun h=>by first|exact h|simpa using h))
   have HEE8:=Lib.hid (HEx.out.appV HV8.out HE4.out.size hg8)
   have HRA8:=Lib.hid hra8
   clear hra8 ho8 hg8 hs8
   obtain⟨x0,x1,x2,_⟩:=HB1.out w8 HEE8.out
   go_wp2_with fail
   refine (r23made_any R _ HEE8.out.inv _ _ _ HRA8.out (HRw.out.sm (by have:=HTl.out;omega) (by have:=HLb.out;have:=HL5.out;have:=HSl.out i;simp;omega)) _ HRw.out.lens HRw.out.below (by have:=HTl.out;omega) root lone).mono ?_
   rintro z w8e ⟨af,cf,rfl,hef,hof⟩
   rw[HRw.out.lay] at hof ⊢
   have HEf:=Lib.hid (HEE8.out.trans hef)
   have HOf:=Lib.hid hof
   have HSf:=Lib.hid HEE8.out.size
   clear hef hof x0 x1 x2
   obtain⟨y0,y1,y2,yz⟩:=boxC_cells (HB2.out _ HEf.out).1
   obtain⟨lf,hlf⟩:∃ l,(starC s O).length=l:=⟨_,rfl⟩
   rw[hlf] at HOf
   try rw[hlf]
   have HLF:=Lib.hid hlf
   clear hlf
   simp only[refV]
   go_wp2_with fail
   have hb3:=set3 (x:=.slice af lf cf) (y:=.int .i64 root) (z:=.int .i64 lone) (HB2.out _ HEf.out).1
   obtain⟨u0,u1,u2,_⟩:=boxC_cells hb3
   have hn2:=(HB2.out _ HEf.out).2
   have hne:∀ (o:Nat),(Value.slice af lf cf).ownBlock≠some (⟨w.heap.size+1,o,none⟩:Addr).block:=fun o e'=>by
    have h1:=(HOf.out.lt _ e').1
    have h2:=HZa.out
    have h4:=HSf.out
    have h3:(⟨w.heap.size+1,o,none⟩:Addr).block=w.heap.size+1:=rfl
    omega
   try simp only[Exit.inBlock,Exit.then]
   refine bodyPost_ret (v:=.tuple #[refV (.slice af lf cf) root lone,.int .i64 0]) ?_ rfl (⟨af,cf,by rw[HLF.out],?_,?_⟩)
   ·simp[results,Tryz.results75,go_sem,u0,u1,u2,refV]
   ·exact (((HEa.out.trans HEf.out).setCell (by simp) hn2 _).setCell (by simp) hn2 _).setCell (by simp) hn2 _
   ·rw[HLF.out]
    exact (((HOf.out.mono (by have:=HSf.out;have:=HZa.out;omega)).setCell (hne 0) _).setCell (hne 1) _).setCell (hne 2) _
end
section
open Go.RowKit
set_option linter.unusedVariables false
set_option linter.unusedSimpArgs false
set_option maxRecDepth 100000 in
set_option maxHeartbeats 2000000 in
theorem do_out (R:Reg) (w:World) (hI:Inv R w) (v:Value) (s:List Nat) (root lone:Int) (hv:FreeI R w v (toI s)) (hn:s.length≤1000000) (k:Nat) (d e:Int) (h:wayR s.length k d e=false):
  Calls Tryz.prog 75 #[refV v root lone,.int .i64 (k:Int),.int .i64 d,.int .i64 e] w (fun z w2=>z=.returned (.tuple #[refV v root lone,.int .i64 1])∧Ev R w R w2):=by
 obtain⟨a0,c0,rfl,_⟩:=hv.open
 rw[toI_length] at hv ⊢
 unfold refV
 have he0:Ev R w R (w.alloc (.cells #[.slice a0 s.length c0,.int .i64 root,.int .i64 lone] 27)):=(Ev.refl hI).alloc _
 have he01:Ev R (w.alloc (.cells #[.slice a0 s.length c0,.int .i64 root,.int .i64 lone] 27)) R ((w.alloc (.cells #[.slice a0 s.length c0,.int .i64 root,.int .i64 lone] 27)).alloc (.cells #[.slice none 0 0,.int .i64 0,.int .i64 0] 27)):=(Ev.refl he0.inv).alloc _
 have he1:Ev R w R ((w.alloc (.cells #[.slice a0 s.length c0,.int .i64 root,.int .i64 lone] 27)).alloc (.cells #[.slice none 0 0,.int .i64 0,.int .i64 0] 27)):=he0.trans he01
 have hn1:R w.heap.size=none:=hI.none_of_ge (Nat.le_refl _)
 have hB1:=fun w' (h:Ev R ((w.alloc (.cells #[.slice a0 s.length c0,.int .i64 root,.int .i64 lone] 27)).alloc (.cells #[.slice none 0 0,.int .i64 0,.int .i64 0] 27)) R w')=>(he01.trans h).boxC3 (heap_alloc_new w _) hn1
 have hB2:=fun w' (h:Ev R ((w.alloc (.cells #[.slice a0 s.length c0,.int .i64 root,.int .i64 lone] 27)).alloc (.cells #[.slice none 0 0,.int .i64 0,.int .i64 0] 27)) R w')=>h.boxC3 (heap_alloc_new (w.alloc (.cells #[.slice a0 s.length c0,.int .i64 root,.int .i64 lone] 27)) (.cells #[.slice none 0 0,.int .i64 0,.int .i64 0] 27)) (he0.inv.none_of_ge (Nat.le_refl _))
 rw[World.size_alloc] at hB2
 have hcase:d<0∨(0≤d∧(s.length:Int)≤d)∨(0≤d∧d<s.length∧k=1∧e<0)∨(0≤d∧d<s.length∧k=1∧0≤e∧(s.length:Int)≤e):=by
  have hi:∀ x:Int,inR s.length x=false→x<0∨(s.length:Int)≤x:=fun x hx=>by
   unfold inR at hx
   have:=of_decide_eq_false hx
   omega
  by_cases h1:inR s.length d=false
  ·have:=hi d h1;omega
  ·have h2:inR s.length d=true:=by simpa using h1
   have h2':0≤d∧d<s.length:=of_decide_eq_true h2
   have hk:k=1:=by
    apply Classical.byContradiction
    intro hk
    have h3:wayR s.length k d e=inR s.length d:=by
     unfold wayR
     split
     ·exact absurd rfl hk
     ·rfl
    rw[h3,h2] at h
    cases h
   subst hk
   have h4:(inR s.length d && inR s.length e)=false:=h
   rw[h2,Bool.true_and] at h4
   have:=hi e h4
   omega
 obtain⟨n,hnn⟩:∃ n,s.length=n:=⟨_,rfl⟩
 rw[hnn] at he0 he01 he1 hB1 hB2 hn hcase ⊢
 clear hv h hnn
 go_enter Tryz.func75,Tryz.ntmps75
 go_upto_region 1 with fail
 obtain⟨wa,hwa⟩:∃ wa,(w.alloc (.cells #[.slice a0 n c0,.int .i64 root,.int .i64 lone] 27)).alloc (.cells #[.slice none 0 0,.int .i64 0,.int .i64 0] 27)=wa:=⟨_,rfl⟩
 try rw[hwa] at he1 hB1 hB2 ⊢
 have HB2:=Lib.hid hB2
 have HEa:=Lib.hid he1
 obtain⟨x0,x1,x2,_⟩:=boxC_cells (hB1 wa (Ev.refl he1.inv)).1
 obtain⟨y0,y1,y2,yz⟩:=boxC_cells (hB2 wa (Ev.refl he1.inv)).1
 have HW:=Lib.hid (Ev.refl he1.inv)
 clear he0 he01 he1 hB1 hB2 hwa hn1 hI
 rcases hcase with h1|⟨h1,h2⟩|⟨h1,h2,rfl,h3⟩|⟨h1,h2,rfl,h3,h4⟩
 ·have b1:decide (d<0)=true:=decide_eq_true h1
  go_wp2_with fail
  have hb3:=set3 (x:=.slice a0 n c0) (y:=.int .i64 root) (z:=.int .i64 lone) (HB2.out _ HW.out).1
  obtain⟨u0,u1,u2,_⟩:=boxC_cells hb3
  have hn2:=(HB2.out _ HW.out).2
  refine bodyPost_ret (v:=.tuple #[refV (.slice a0 n c0) root lone,.int .i64 1]) ?_ rfl ⟨rfl,?_⟩
  ·simp[results,Tryz.results75,go_sem,u0,u1,u2,refV]
  ·exact ((HEa.out.setCell (by simp) hn2 _).setCell (by simp) hn2 _).setCell (by simp) hn2 _
 ·have b1:decide (d<0)=false:=decide_eq_false (by omega)
  have b2:decide ((n:Int)≤d)=true:=decide_eq_true h2
  go_wp2_with fail
  have hb3:=set3 (x:=.slice a0 n c0) (y:=.int .i64 root) (z:=.int .i64 lone) (HB2.out _ HW.out).1
  obtain⟨u0,u1,u2,_⟩:=boxC_cells hb3
  have hn2:=(HB2.out _ HW.out).2
  refine bodyPost_ret (v:=.tuple #[refV (.slice a0 n c0) root lone,.int .i64 1]) ?_ rfl ⟨rfl,?_⟩
  ·simp[results,Tryz.results75,go_sem,u0,u1,u2,refV]
  ·exact ((HEa.out.setCell (by simp) hn2 _).setCell (by simp) hn2 _).setCell (by simp) hn2 _
 ·have b1:decide (d<0)=false:=decide_eq_false (by omega)
  have b2:decide ((n:Int)≤d)=false:=decide_eq_false (by omega)
  have b3:decide (e<0)=true:=decide_eq_true h3
  go_wp2_with fail
  have hb3:=set3 (x:=.slice a0 n c0) (y:=.int .i64 root) (z:=.int .i64 lone) (HB2.out _ HW.out).1
  obtain⟨u0,u1,u2,_⟩:=boxC_cells hb3
  have hn2:=(HB2.out _ HW.out).2
  refine bodyPost_ret (v:=.tuple #[refV (.slice a0 n c0) root lone,.int .i64 1]) ?_ rfl ⟨rfl,?_⟩
  ·simp[results,Tryz.results75,go_sem,u0,u1,u2,refV]
  ·exact ((HEa.out.setCell (by simp) hn2 _).setCell (by simp) hn2 _).setCell (by simp) hn2 _
 ·have b1:decide (d<0)=false:=decide_eq_false (by omega)
  have b2:decide ((n:Int)≤d)=false:=decide_eq_false (by omega)
  have b3:decide (e<0)=false:=decide_eq_false (by omega)
  have b4:decide ((n:Int)≤e)=true:=decide_eq_true h4
  go_wp2_with fail
  have hb3:=set3 (x:=.slice a0 n c0) (y:=.int .i64 root) (z:=.int .i64 lone) (HB2.out _ HW.out).1
  obtain⟨u0,u1,u2,_⟩:=boxC_cells hb3
  have hn2:=(HB2.out _ HW.out).2
  refine bodyPost_ret (v:=.tuple #[refV (.slice a0 n c0) root lone,.int .i64 1]) ?_ rfl ⟨rfl,?_⟩
  ·simp[results,Tryz.results75,go_sem,u0,u1,u2,refV]
  ·exact ((HEa.out.setCell (by simp) hn2 _).setCell (by simp) hn2 _).setCell (by simp) hn2 _
end
end Go.Proofs.YtklkgicjfnbndaaGreat
