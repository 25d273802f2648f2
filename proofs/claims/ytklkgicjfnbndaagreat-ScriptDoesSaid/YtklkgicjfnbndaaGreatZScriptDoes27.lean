/- Shrunk, a map has as many parts, and the same genus. -/
import Derived.Test.YtklkgicjfnbndaaGreatZScriptDoes26
import Derived.Test.YtklkgicjfnbndaaGreatZScriptDoes11
namespace Go.Proofs.YtklkgicjfnbndaaGreat
section
set_option linter.unusedVariables false
section
variable {s : List Nat} (hs : IsPerm s) (he : s.length % 2 = 0) {e : Nat} (hn : 2 * e + 2 ≤ s.length) (hne : nth (namesL s) (2 * e) ≠ nth (namesL s) (2 * e + 1))
include hs he hn
include hne
end
end
section
set_option linter.unusedVariables false
theorem orbitGo_map {s:List Nat} {i:Nat}:∀ (f x:Nat),Reach s i f x→∃ m,it s m x=i∧orbitGo s i f x=(List.range m).map (fun j=>it s j x)
 | 0,x,h=>by
  obtain⟨j,hj,e⟩:=h
  obtain rfl:j=0:=by omega
  exact⟨0,e,rfl⟩
 | f+1,x,h=>by
  by_cases hx:x=i
  ·subst hx;exact⟨0,rfl,by rw[orbitGo_end];rfl⟩
  ·obtain⟨f',hf,hr⟩:=h.next hx
   obtain rfl:f'=f:=by omega
   obtain⟨m,h1,h2⟩:=orbitGo_map f' (at' s x) hr
   refine⟨m+1,h1,?_⟩
   rw[orbitGo_next hx,h2,List.range_succ_eq_map,List.map_cons,List.map_map]
   rfl
theorem orbitL_map {s:List Nat} (hs:IsPerm s) {i:Nat} (hi:i<s.length):∃ c,0<c∧it s c i=i∧orbitL s i=(List.range c).map (fun j=>it s j i):=by
 obtain⟨m,h1,h2⟩:=orbitGo_map s.length (at' s i) (hs.reach hi)
 refine⟨m+1,by omega,h1,?_⟩
 show i :: orbitGo s i s.length (at' s i)=_
 rw[h2,List.range_succ_eq_map,List.map_cons,List.map_map]
 rfl
theorem way_itf {s:List Nat} {Q:Nat→Prop} {d a b:Nat} (hab:a<b) (hq:∀ j,a<j→j<b→Q (itf (at' s) j d)) (hb:¬ Q (itf (at' s) b d)):Way s Q (itf (at' s) a d) (itf (at' s) b d):=by
 obtain⟨k,rfl⟩:∃ k,b=a+1+k:=⟨b-a-1,by omega⟩
 induction k generalizing a with
 | zero=>
  rw[Nat.add_zero] at hb ⊢
  rw[itf_succ] at hb ⊢
  exact .one hb
 | succ k ih=>
  have h1:=hq (a+1) (by omega) (by omega)
  have e:a+1+(k+1)=a+1+1+k:=by omega
  rw[itf_succ] at h1
  refine .more h1 ?_
  rw[show at' s (itf (at' s) a d)=itf (at' s) (a+1) d from (itf_succ _ _ _).symm,e]
  exact ih (by omega) (fun j h2 h3=>hq j (by omega) (by omega)) (by rw[←e];exact hb)
def fromL (s:List Nat) (d e:Nat):List Nat:=(orbitL s d).filter fun x=>!decide (x / 2=e)
theorem mem_from {s:List Nat} {d e x:Nat}:x∈fromL s d e↔x∈orbitL s d∧¬ x / 2=e:=by
 unfold fromL
 rw[List.mem_filter]
 simp
def nextI (n i:Nat):Nat:=if i+1<n then i+1 else 0
theorem from_next {s:List Nat} (hs:IsPerm s) {d e:Nat} (hd:d<s.length) {i:Nat} (hi:i<(fromL s d e).length):
  Way s (fun x=>x / 2=e) ((fromL s d e).getD i 0) ((fromL s d e).getD (nextI (fromL s d e).length i) 0):=by
 obtain⟨c,hc,hcd,ho⟩:=orbitL_map hs hd
 have e0:fromL s d e=(srt (fun j=>!decide (it s j d / 2=e)) c).map (fun j=>it s j d):=by
  unfold fromL srt
  rw[ho,List.filter_map]
  rfl
 obtain⟨I,hI⟩:∃ I,srt (fun j=>!decide (it s j d / 2=e)) c=I:=⟨_,rfl⟩
 have hlen:(fromL s d e).length=I.length:=by rw[e0,hI];simp
 have hget:∀ j,j<I.length→(fromL s d e).getD j 0=itf (at' s) (I.getD j 0) d:=fun j hj=>by
  rw[e0,hI]
  simp[List.getD,hj,it_itf]
 rw[hlen] at hi ⊢
 have hmem:∀ j,j<c→¬ itf (at' s) j d / 2=e→∃ k,k<I.length∧I.getD k 0=j:=fun j hj hjo=>by
  have:=srt_idx (S:=fun j=>!decide (it s j d / 2=e)) (P:=c) hj (by rw[it_itf];simp[hjo])
  rw[hI] at this
  exact⟨_,this.1,this.2⟩
 have hin:∀ k,k<I.length→I.getD k 0<c∧¬ itf (at' s) (I.getD k 0) d / 2=e:=fun k hk=>by
  have:=srt_get (S:=fun j=>!decide (it s j d / 2=e)) (P:=c) (i:=k) (by rw[hI];exact hk)
  rw[hI,it_itf] at this
  simpa using this
 have hlt:∀ a b,a<I.length→b<I.length→(I.getD a 0<I.getD b 0↔a<b):=fun a b ha hb=>by
  have:=srt_lt_iff (S:=fun j=>!decide (it s j d / 2=e)) (P:=c) (i:=a) (j:=b) (by rw[hI];exact ha) (by rw[hI];exact hb)
  rwa [hI] at this
 unfold nextI
 by_cases h1:i+1<I.length
 ·rw[if_pos h1,hget i hi,hget (i+1) h1]
  refine way_itf ((hlt _ _ hi h1).2 (by omega)) (fun j h2 h3=>?_) (hin _ h1).2
  by_cases hj:itf (at' s) j d / 2=e
  ·exact hj
  ·obtain⟨k,hk,rfl⟩:=hmem j (by have:=(hin _ h1).1;omega) hj
   have a:=(hlt _ _ hi hk).1 h2
   have b:=(hlt _ _ hk h1).1 h3
   omega
 ·rw[if_neg h1,hget i hi,hget 0 (by omega)]
  have hI0:=hin 0 (by omega)
  have hcyc:∀ j,itf (at' s) (c+j) d=itf (at' s) j d:=fun j=>by
   rw[itf_plus]
   rw[it_itf] at hcd
   rw[hcd]
  have hii:=hin i hi
  rw[←hcyc (I.getD 0 0)]
  refine way_itf (by omega) (fun j h2 h3=>?_) (by rw[hcyc];exact hI0.2)
  by_cases hj:itf (at' s) j d / 2=e
  ·exact hj
  ·by_cases hjc:j<c
   ·obtain⟨k,hk,rfl⟩:=hmem j hjc hj
    have:=(hlt _ _ hi hk).1 h2
    omega
   ·obtain⟨j',rfl⟩:∃ j',j=c+j':=⟨j-c,by omega⟩
    rw[hcyc] at hj
    obtain⟨k,hk,e3⟩:=hmem j' (by omega) hj
    have:¬ k<0:=by omega
    have h5:I.getD k 0<I.getD 0 0:=by omega
    have:=(hlt _ _ hk (by omega)).1 h5
    omega
def layV (e:Nat) (v:List Nat) (S:List Nat):List Nat:=(List.range v.length).foldl (fun S i=>S.set (nmL e (v.getD i 0)) (nmL e (v.getD (nextI v.length i) 0))) S
theorem foldl_lay {T:List Nat} {p q:Nat→Nat}:∀ (k:Nat) (S:List Nat),S.length=T.length→(∀ i,i<k→p i<T.length→q i=at' T (p i)) →
  ((List.range k).foldl (fun S i=>S.set (p i) (q i)) S).length=T.length∧∀ j,j<T.length→at' ((List.range k).foldl (fun S i=>S.set (p i) (q i)) S) j=if (∃ i,i<k∧p i=j) then at' T j else at' S j
 | 0,S,hl,_=>⟨hl,fun j hj=>by rw[if_neg (fun ⟨i,hi,_⟩=>by omega)];rfl⟩
 | k+1,S,hl,h=>by
  obtain⟨h1,h2⟩:=foldl_lay k S hl fun i hi=>h i (by omega)
  rw[List.range_succ,List.foldl_append]
  refine⟨by simp[h1],fun j hj=>?_⟩
  show at' (List.set _ _ _) j=_
  have hset:∀ (L:List Nat) (a b j:Nat),j<L.length→at' (L.set a b) j=if a=j then b else at' L j:=fun L a b j hj=>by
   unfold at'
   simp only[List.getD_eq_getElem?_getD,List.getElem?_set]
   by_cases e:a=j
   ·subst e;simp[hj]
   ·simp[e]
  rw[hset _ _ _ _ (by rw[h1];exact hj),h2 j hj]
  by_cases e:p k=j
  ·rw[if_pos e,if_pos ⟨k,by omega,e⟩,h k (by omega) (by rw[e];exact hj),e]
  ·rw[if_neg e]
   by_cases hex:∃ i,i<k∧p i=j
   ·obtain⟨i,hi,hp⟩:=hex
    rw[if_pos ⟨i,hi,hp⟩,if_pos ⟨i,by omega,hp⟩]
   ·rw[if_neg hex,if_neg]
    rintro⟨i,hi,hp⟩
    rcases Nat.lt_or_eq_of_le (Nat.le_of_lt_succ hi) with h3|h3
    ·exact hex ⟨i,h3,hp⟩
    ·subst h3;exact e hp
end
section
set_option linter.unusedVariables false
theorem layV_spec {t:List Nat} (ht:IsPerm t) {e:Nat} (hn:2*e+2≤t.length) {d:Nat} (hd:d<t.length) {S:List Nat} (hS:S.length=t.length-2):
  (layV e (fromL t d e) S).length=t.length-2∧∀ j,j<t.length-2→at' (layV e (fromL t d e) S) j=if unL e j∈fromL t d e then at' (doneL t e) j else at' S j:=by
 have hget:∀ i,i<(fromL t d e).length→(fromL t d e).getD i 0∈fromL t d e:=fun i hi=>by
  rw[getD_lt hi];exact List.getElem_mem hi
 have hlt:∀ x,x∈fromL t d e→x<t.length∧¬ x / 2=e:=fun x hx=>⟨orbitL_lt ht hd x (mem_from.1 hx).1,(mem_from.1 hx).2⟩
 have h:=foldl_lay (T:=doneL t e) (p:=fun i=>nmL e ((fromL t d e).getD i 0)) (q:=fun i=>nmL e ((fromL t d e).getD (nextI (fromL t d e).length i) 0)) (fromL t d e).length S (by rw[doneL_length];exact hS) (fun i hi hp=>by
  obtain⟨h1,h2⟩:=hlt _ (hget i hi)
  have hw:=from_next ht hd hi
  have hl2:nmL e ((fromL t d e).getD i 0)<t.length-2:=nmL_lt hn h2 h1
  rw[doneL_at hl2,un_nm h2]
  exact congrArg (nmL e) (hw.same (pass_way ht h1 h2)))
 rw[doneL_length] at h
 refine⟨h.1,fun j hj=>?_⟩
 rw[show at' (layV e (fromL t d e) S) j=_ from h.2 j hj]
 by_cases hm:unL e j∈fromL t d e
 ·obtain⟨i,hi,e1⟩:=List.getElem_of_mem hm
  rw[if_pos hm,if_pos ⟨i,hi,by show nmL e ((fromL t d e).getD i 0)=j;rw[getD_lt hi,e1,nm_un]⟩]
 ·rw[if_neg hm,if_neg]
  rintro⟨i,hi,e1⟩
  apply hm
  have h1:=hget i hi
  have e2:nmL e ((fromL t d e).getD i 0)=j:=e1
  rw[←e2,un_nm (hlt _ h1).2]
  exact h1
def layAll (e:Nat) (xss:List (List Nat)) (S:List Nat):List Nat:=xss.foldl (fun S v=>layV e v S) S
theorem layAll_spec {t:List Nat} (ht:IsPerm t) {e:Nat} (hn:2*e+2≤t.length):∀ (ds:List Nat) (S:List Nat),(∀ d,d∈ds→d<t.length)→S.length=t.length-2 →
  (layAll e (ds.map fun d=>fromL t d e) S).length=t.length-2∧∀ j,j<t.length-2→at' (layAll e (ds.map fun d=>fromL t d e) S) j=if (∃ d,d∈ds∧unL e j∈fromL t d e) then at' (doneL t e) j else at' S j
 | [],S,_,hS=>⟨hS,fun j hj=>by rw[if_neg (fun ⟨d,hd,_⟩=>by cases hd)];rfl⟩
 | d :: ds,S,h,hS=>by
  obtain⟨h1,h2⟩:=layV_spec ht hn (h d List.mem_cons_self) hS
  obtain⟨h3,h4⟩:=layAll_spec ht hn ds (layV e (fromL t d e) S) (fun x hx=>h x (List.mem_cons_of_mem _ hx)) h1
  refine⟨h3,fun j hj=>?_⟩
  rw[show at' (layAll e ((d :: ds).map fun d=>fromL t d e) S) j=_ from h4 j hj,h2 j hj]
  by_cases hx:∃ d',d'∈ds∧unL e j∈fromL t d' e
  ·obtain⟨d',hd',hm⟩:=hx
   rw[if_pos ⟨d',hd',hm⟩,if_pos ⟨d',List.mem_cons_of_mem _ hd',hm⟩]
  ·rw[if_neg hx]
   by_cases hm:unL e j∈fromL t d e
   ·rw[if_pos hm,if_pos ⟨d,List.mem_cons_self,hm⟩]
   ·rw[if_neg hm,if_neg]
    rintro⟨d',hd',hm'⟩
    rcases List.mem_cons.1 hd' with rfl|hd'
    ·exact hm hm'
    ·exact hx ⟨d',hd',hm'⟩
theorem layAll_done {t:List Nat} (ht:IsPerm t) {e:Nat} (hn:2*e+2≤t.length) {ds:List Nat} (hds:∀ d,d∈ds→d<t.length) (hall:∀ x,x<t.length→¬ x / 2=e→∃ d,d∈ds∧x∈orbitL t d):
  layAll e (ds.map fun d=>fromL t d e) (List.replicate (t.length-2) 0)=doneL t e:=by
 obtain⟨h1,h2⟩:=layAll_spec ht hn ds (List.replicate (t.length-2) 0) hds (by simp)
 refine eq_at (by rw[h1,doneL_length]) fun j hj=>?_
 rw[h1] at hj
 obtain⟨d,hd,hx⟩:=hall (unL e j) (unL_lt hn hj) unL_own
 rw[h2 j hj,if_pos ⟨d,hd,mem_from.2 ⟨hx,unL_own⟩⟩]
theorem from_all {s:List Nat} {d e:Nat} (h:∀ x,x∈orbitL s d→¬ x / 2=e):fromL s d e=orbitL s d:=by
 unfold fromL
 rw[List.filter_eq_self]
 intro x hx
 simp[h x hx]
theorem orbit_step {s:List Nat} (hs:IsPerm s) {i:Nat} (hi:i<s.length) {m:Nat} (h0:it s (m+1) i=i) (h1:∀ j,0<j→j≤m→it s j i≠i):orbitL s i=(List.range (m+1)).map (fun j=>it s j i):=by
 obtain⟨c,hc,hcd,ho⟩:=orbitL_map hs hi
 rw[ho]
 have hn:=orbitL_nodup hs hi
 rw[ho] at hn
 have hle:c≤m+1:=by
  rcases Nat.lt_or_ge (m+1) c with h|h
  ·exfalso
   have:=(List.pairwise_map.1 hn)
   have h2:=List.pairwise_iff_getElem.1 this 0 (m+1) (by simp;omega) (by simpa using h) (by omega)
   simp only[List.getElem_range] at h2
   exact h2 h0.symm
  ·exact h
 have hge:m+1≤c:=by
  rcases Nat.lt_or_ge c (m+1) with h|h
  ·exact absurd hcd (h1 c hc (by omega))
  ·exact h
 rw[show c=m+1 by omega]
theorem from_join {s:List Nat} (hs:IsPerm s) {e:Nat} (hn:2*e+2≤s.length) (hne:nth (namesL s) (2*e)≠nth (namesL s) (2*e+1)):fromL (exL s e) (2*e) e=fromL s (2*e+1) e ++ fromL s (2*e) e:=by
 have hA:2*e<s.length:=by omega
 have hB:2*e+1<s.length:=by omega
 have nn:=ex_not hs hn hne
 have hq:=hs.pm.per
 have hp:=exL_perm hs hn
 have hl:=exL_length s e
 obtain⟨a,ha,had,hoa⟩:=orbitL_map hs hA
 obtain⟨b,hb,hbd,hob⟩:=orbitL_map hs hB
 have cyA:∀ j,cyc s.length (at' s) (2*e) (it s j (2*e)):=fun j=>⟨hA,by rw[it_itf];exact hs.pm.it hA j,j,(it_itf s j _).symm⟩
 have cyB:∀ j,cyc s.length (at' s) (2*e+1) (it s j (2*e+1)):=fun j=>⟨hB,by rw[it_itf];exact hs.pm.it hB j,j,(it_itf s j _).symm⟩
 have noA:∀ j,0<j→j<a→it s j (2*e)≠2*e:=fun j h0 h1 h=>by
  have hnd:=orbitL_nodup hs hA
  rw[hoa] at hnd
  have h2:=List.pairwise_iff_getElem.1 (List.pairwise_map.1 hnd) 0 j (by simp;omega) (by simpa using h1) h0
  simp only[List.getElem_range] at h2
  exact h2 h.symm
 have noB:∀ j,0<j→j<b→it s j (2*e+1)≠2*e+1:=fun j h0 h1 h=>by
  have hnd:=orbitL_nodup hs hB
  rw[hob] at hnd
  have h2:=List.pairwise_iff_getElem.1 (List.pairwise_map.1 hnd) 0 j (by simp;omega) (by simpa using h1) h0
  simp only[List.getElem_range] at h2
  exact h2 h.symm
 have AB:∀ j,it s j (2*e)≠2*e+1:=fun j h=>nn (by have:=cyA j;rwa [h] at this)
 have BA:∀ j,it s j (2*e+1)≠2*e:=fun j h=>nn (hq.symm (by have:=cyB j;rwa [h] at this))
 have ownA:∀ j,0<j→j<a→¬ it s j (2*e) / 2=e:=fun j h0 h1 h=>by have h2:=noA j h0 h1;have h3:=AB j;omega
 have ownB:∀ j,0<j→j<b→¬ it s j (2*e+1) / 2=e:=fun j h0 h1 h=>by have h2:=noB j h0 h1;have h3:=BA j;omega
 have succ_it:∀ (u:List Nat) j x,it u (j+1) x=at' u (it u j x):=fun u j x=>by rw[it_itf,it_itf,itf_succ]
 have tstep:∀ x,x<s.length→at' (exL s e) x=at' s (exI e x):=fun x hx=>exL_at hx
 have t1:∀ j,0<j→j≤b→it (exL s e) j (2*e)=it s j (2*e+1):=fun j=>by
  induction j with
  | zero=>intro h;omega
  | succ j ih=>
   intro _ hj
   rw[succ_it,succ_it s]
   by_cases h0:j=0
   ·subst h0
    show at' (exL s e) (2*e)=at' s (2*e+1)
    rw[tstep _ hA]
    unfold exI
    rw[if_neg (by omega),if_pos rfl]
   ·rw[ih (by omega) (by omega),tstep _ (hq.cod (cyB j)),exI_else (ownB j (by omega) (by omega))]
 have t2:∀ j,0<j→j≤a→it (exL s e) (b+j) (2*e)=it s j (2*e):=fun j=>by
  induction j with
  | zero=>intro h;omega
  | succ j ih=>
   intro _ hj
   rw[show b+(j+1)=(b+j)+1 by omega,succ_it,succ_it s]
   by_cases h0:j=0
   ·subst h0
    rw[Nat.add_zero,t1 b hb (Nat.le_refl _),hbd,tstep _ hB]
    unfold exI
    rw[if_pos rfl]
    rfl
   ·rw[ih (by omega) (by omega),tstep _ (hq.cod (cyA j)),exI_else (ownA j (by omega) (by omega))]
 have hob':orbitL (exL s e) (2*e)=(List.range (b+a)).map (fun j=>it (exL s e) j (2*e)):=by
  have h0:=t2 a ha (Nat.le_refl _)
  rw[had] at h0
  have:=orbit_step hp (i:=2*e) (by rw[hl];exact hA) (m:=b+a-1) (by rw[show b+a-1+1=b+a by omega];exact h0) (fun j h1 h2 h=>by
   by_cases hj:j≤b
   ·rw[t1 j h1 hj] at h
    exact BA j h
   ·obtain⟨k,rfl⟩:∃ k,j=b+k:=⟨j-b,by omega⟩
    rw[t2 k (by omega) (by omega)] at h
    exact noA k (by omega) (by omega) h)
  rwa [show b+a-1+1=b+a by omega] at this
 have part:∀ (u:List Nat) (x c:Nat),0<c→x / 2=e→(∀ j,0<j→j<c→¬ it u j x / 2=e)→((List.range c).map (fun j=>it u j x)).filter (fun x=>!decide (x / 2=e))=(List.range (c-1)).map (fun j=>it u (j+1) x):=fun u x c hc hx ho=>by
  obtain⟨k,rfl⟩:∃ k,c=k+1:=⟨c-1,by omega⟩
  rw[List.range_succ_eq_map,List.map_cons,List.map_map,List.filter_cons,if_neg (by show ¬ (!decide (it u 0 x / 2=e))=true;simp[it,hx]),Nat.add_sub_cancel]
  rw[List.filter_eq_self.2]
  ·rfl
  ·intro y hy
   obtain⟨j,hj,rfl⟩:=List.mem_map.1 hy
   have:=ho (j+1) (by omega) (by have:=List.mem_range.1 hj;omega)
   simpa using this
 have pA:=part s (2*e) a ha (by omega) ownA
 have pB:=part s (2*e+1) b hb (by omega) ownB
 unfold fromL
 rw[hoa,hob,hob',pA,pB,List.range_add,List.map_append,List.filter_append]
 congr 1
 ·have e0:(List.range (b-1)).map (fun j=>it (exL s e) (j+1) (2*e))=(List.range (b-1)).map (fun j=>it s (j+1) (2*e+1)):=List.map_congr_left fun j hj=>t1 (j+1) (by omega) (by have:=List.mem_range.1 hj;omega)
  rw[←e0]
  exact part (exL s e) (2*e) b hb (by omega) fun j h0 h1=>by rw[t1 j h0 (by omega)];exact ownB j h0 h1
 ·rw[List.map_map]
  have e1:((List.range a).map ((fun j=>it (exL s e) j (2*e)) ∘ fun x=>b+x))=(List.range a).map (fun j=>if j=0 then 2*e+1 else it s j (2*e)):=by
   refine List.map_congr_left fun j hj=>?_
   have hja:=List.mem_range.1 hj
   show it (exL s e) (b+j) (2*e)=_
   by_cases h0:j=0
   ·subst h0;rw[if_pos rfl,Nat.add_zero,t1 b hb (Nat.le_refl _),hbd]
   ·rw[if_neg h0,t2 j (by omega) (by omega)]
  rw[e1]
  obtain⟨k,rfl⟩:∃ k,a=k+1:=⟨a-1,by omega⟩
  rw[List.range_succ_eq_map,List.map_cons,List.map_map,List.filter_cons,if_neg (show ¬ (!decide ((if (0:Nat)=0 then 2*e+1 else it s 0 (2*e)) / 2=e))=true by rw[if_pos rfl];simp;omega),Nat.add_sub_cancel]
  rw[List.filter_eq_self.2]
  ·refine List.map_congr_left fun j hj=>?_
   show (if j+1=0 then 2*e+1 else it s (j+1) (2*e))=it s (j+1) (2*e)
   rw[if_neg (by omega)]
  ·intro y hy
   obtain⟨j,hj,rfl⟩:=List.mem_map.1 hy
   have h1:=ownA (j+1) (by omega) (by have:=List.mem_range.1 hj;omega)
   show (!decide ((if j+1=0 then 2*e+1 else it s (j+1) (2*e)) / 2=e))=true
   rw[if_neg (by omega)]
   simpa using h1
end
section
open Go.RowKit
set_option linter.unusedVariables false
set_option maxRecDepth 100000 in
theorem r10name_any (w:World) (d e:Nat) (hd:d≤4000000) (he:e≤1000000) (ho:¬ d / 2=e):Calls Tryz.prog 143 #[.int .i64 (d:Int),.int .i64 (e:Int)] w fun z w'=>z=.returned (.int .i64 ((nmL e d:Nat):Int))∧w=w':=by
 have hw:IntKind.i64.wrap (2*(e:Int))=2*(e:Int):=IntWalk.i64_in _ (by omega)
 have hw1:IntKind.i64.wrap (2*(e:Int)+1)=2*(e:Int)+1:=IntWalk.i64_in _ (by omega)
 have hw2:IntKind.i64.wrap ((d:Int)-2)=(d:Int)-2:=IntWalk.i64_in _ (by omega)
 by_cases hk:2*e<d
 ·have hb1:(2*(e:Int)+1<(d:Int)):=by omega
  have hv:((nmL e d:Nat):Int)=(d:Int)-2:=by unfold nmL;rw[if_pos hk];omega
  rw[hv]
  go_enter Tryz.func143,Tryz.ntmps143
  go_wp2_with fail
  go_ret
  exact⟨rfl,rfl⟩
 ·have hb1:¬ (2*(e:Int)+1<(d:Int)):=by omega
  have hv:((nmL e d:Nat):Int)=(d:Int):=by unfold nmL;rw[if_neg hk]
  rw[hv]
  go_enter Tryz.func143,Tryz.ntmps143
  go_wp2_with fail
  go_ret
  exact⟨rfl,rfl⟩
def fromTo (xs:List Nat) (e i:Nat):List Nat:=(xs.take i).filter fun x=>!decide (x / 2=e)
theorem fromTo_yes {xs:List Nat} {e i:Nat} (hi:i<xs.length) (h:¬ at' xs i / 2=e):toI (fromTo xs e (i+1))=toI (fromTo xs e i) ++ [((at' xs i:Nat):Int)]:=by
 unfold fromTo
 rw[List.take_succ_eq_append_getElem hi,List.filter_append]
 have e1:at' xs i=xs[i]:=at'_eq hi
 rw[e1] at h ⊢
 simp[toI,h]
theorem fromTo_no {xs:List Nat} {e i:Nat} (hi:i<xs.length) (h:at' xs i / 2=e):fromTo xs e (i+1)=fromTo xs e i:=by
 unfold fromTo
 rw[List.take_succ_eq_append_getElem hi,List.filter_append]
 have e1:at' xs i=xs[i]:=at'_eq hi
 rw[e1] at h
 simp[h]
theorem fromTo_le (xs:List Nat) (e i:Nat):(toI (fromTo xs e i)).length≤i:=by
 unfold fromTo
 rw[toI_length]
 have h1:=List.length_filter_le (fun x=>!decide (x / 2=e)) (xs.take i)
 have h2:(xs.take i).length≤i:=by rw[List.length_take];omega
 omega
set_option maxRecDepth 100000 in
set_option maxHeartbeats 2000000 in
theorem r10from_any (R:Reg) (w:World) (hI:Inv R w) (v:Value) (s:List Nat) (root lone:Int) (hv:FreeI R w v (toI s)) (hS:IsPerm s) (hn:s.length≤1000000) (d e:Nat) (hd:d<s.length):
  Calls Tryz.prog 124 #[refV v root lone,.int .i64 (d:Int),.int .i64 (e:Int)] w (RetOwn R w (toI (fromL s d e))):=by
 obtain⟨a0,cap0,rfl,hv0⟩:=hv.open
 rw[toI_length] at hv hv0 ⊢
 have HOr:=Lib.hid (fun R' w' (he:Ev R w R' w')=>rorbit_any R' w' he.inv _ s (hv.ev he) hS (by omega) d hd)
 have hol:=orbitL_length s d
 have hlt:=orbitL_lt hS hd
 have hfr:fromL s d e=fromTo (orbitL s d) e (orbitL s d).length:=by unfold fromL fromTo;rw[List.take_length]
 rw[hfr]
 obtain⟨xs,hxs⟩:∃ xs,orbitL s d=xs:=⟨_,rfl⟩
 rw[hxs] at HOr hol hlt ⊢
 have HLt:Hid (∀ i,i<xs.length→at' xs i≤4000000):=Lib.hid fun i hi=>by
  have:=hlt _ (List.getElem_mem hi)
  rw[at'_eq hi];omega
 obtain⟨m,hm⟩:∃ m,xs.length=m:=⟨_,rfl⟩
 have HM:=Lib.hid hm
 rw[hm] at hol HLt ⊢
 unfold refV
 have he1:Ev R w R (w.alloc (.cells #[.slice a0 s.length cap0,.int .i64 root,.int .i64 lone] 27)):=(Ev.refl hI).alloc _
 obtain⟨x0,x1,x2,_⟩:=box_cells (heap_alloc_new w (.cells #[.slice a0 s.length cap0,.int .i64 root,.int .i64 lone] 27))
 have HE1:=Lib.hid he1
 have hmb:m≤1000001:=by omega
 clear hI hv hv0 hS hlt hxs he1 hm hfr
 go_enter Tryz.func124,Tryz.ntmps124
 go_wp2_with fail
 refine (HOr.out _ _ HE1.out).mono ?_
 rintro z w2 ⟨v2,rfl,he2,ho2⟩
 obtain⟨a2,c2,rfl,_⟩:=ho2.ints.open
 rw[toI_length,HM.out] at ho2 ⊢
 have HE2:=Lib.hid (HE1.out.trans he2)
 have HO2:=Lib.hid ho2
 clear he2 ho2 x0 x1 x2
 go_wp2_with fail
 go_loopg [7,15] m (fun g v7 v15 wr=>∃ (i:Nat) (a6:Option Addr) (l6 c6:Nat),i≤m∧m-i≤g∧v15=.int .i64 (i:Int)∧v7=.slice a6 l6 c6∧Ev R w2 R wr∧OwnI R w2.heap.size 3 wr (.slice a6 l6 c6) (toI (fromTo xs e i)))
 case atStart=>exact⟨0,none,0,0,Nat.zero_le _,by omega,rfl,rfl,Ev.refl HE2.out.inv,OwnI.nil _ _ _ _⟩
 case round=>
  obtain⟨i,a6,l6,c6,him,hg,rfl,rfl,hev,ho6⟩:=hrel
  have HE:=Lib.hid hev
  have HO6:=Lib.hid ho6
  clear hev ho6
  by_cases hil:i<m
  ·have hilx:i<xs.length:=by rw[HM.out];exact hil
   obtain⟨g2,rfl,_,_,k0,_⟩:=(HO2.out.ev HE.out).headAt (xs:=toI xs) (by rw[toI_length,HM.out]) hil
   rw[toI_nth] at k0
   have hyb:=HLt.out i hil
   have hle:=fromTo_le xs e i
   have hz:w2.heap.size≤wr.heap.size:=HE.out.size
   have hyes:=fromTo_yes (e:=e) hilx
   have hno:=fromTo_no (e:=e) hilx
   obtain⟨y,hy⟩:∃ y,at' xs i=y:=⟨_,rfl⟩
   rw[hy] at k0 hyb hyes hno
   have hw:wrap64 ((y:Int) / 2)=(y:Int) / 2:=by unfold wrap64;omega
   clear hy
   by_cases ho:y / 2=e
   ·have hb:((y:Int) / 2 != (e:Int))=false:=by simp;omega
    have HN:=Lib.hid (hno ho)
    clear ho hyes hno
    go_wp2_with fail
    go_roundg (m-(i+1))
    case measure=>omega
    case rel=>exact⟨i+1,a6,l6,c6,by omega,by omega,by go_num,rfl,HE.out,by rw[HN.out];exact HO6.out⟩
   ·have hb:((y:Int) / 2 != (e:Int))=true:=by simp;omega
    have HYs:=Lib.hid (hyes ho)
    have HEa:=Lib.hid (HE.out.alloc (.cells #[.int .i64 (y:Int)] 3))
    have HOa:=Lib.hid (HO6.out.alloc (.cells #[.int .i64 (y:Int)] 3))
    have HLe:=Lib.hid hle
    clear ho hyes hno hle
    go_wp2_with (at_builtin;refine wpList_app_int (R:=R) (B:=w2.heap.size) rfl _ _ rfl HOa.out rfl ⟨wr.heap.size,0,none⟩ 1 (y:Int) ?a0 ?a1 ?a2 ?a3 ?a4 ?_)
    case a0=>first|rfl|simp
    case a1=>first|rfl|simp
    case a2=>have:=HLe.out;omega
    case a3=>simp;omega
    case a4=>exact fun q hq=>HEa.out.inv.none_of_ge (by simp at hq ⊢;omega)
    intro v8 w6 ho8 hg6 hs6
    obtain⟨a8,c8,rfl,_⟩:=ho8.ints.open
    rw[←HYs.out] at ho8 hs6 ⊢
    obtain⟨l8,hl8⟩:∃ l,(toI (fromTo xs e (i+1))).length=l:=⟨_,rfl⟩
    rw[hl8] at ho8 hs6 ⊢
    have HE8:=Lib.hid (HEa.out.app HOa.out (Nat.le_refl _) hg6)
    have HO8:=Lib.hid ho8
    clear hl8 ho8 hg6 hs6
    go_wp2_with fail
    go_roundg (m-(i+1))
    case measure=>omega
    case rel=>exact⟨i+1,a8,l8,c8,by omega,by omega,by go_num,rfl,HE8.out,HO8.out⟩
  ·obtain rfl:i=m:=by omega
   go_wp2_with fail
   go_ret
   exact⟨_,rfl,HE2.out.trans HE.out,HO6.out.mono HE2.out.size⟩
end
end Go.Proofs.YtklkgicjfnbndaaGreat
