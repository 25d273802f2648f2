/- Names on the corners: a star; so how great a script's map becomes: 25 acts make at most 49500 edges. -/
import Derived.Test.YtklkgicjfnbndaaGreatZScriptPlays50
import Derived.Test.YtklkgicjfnbndaaGreatZScriptPlays53
import Derived.Test.YtklkgicjfnbndaaGreatZScriptPlays13
namespace Go.Proofs.YtklkgicjfnbndaaGreat
section
set_option linter.unusedVariables false
set_option linter.unusedSimpArgs false
theorem tally_pairs (p:Nat→Prop) (n:Nat):∀ k,tally p (n+2*k)=tally p n+tally (fun i=>p (n+2*i)) k+tally (fun i=>p (n+2*i+1)) k
 | 0=>by simp[tally_zero']
 | k+1=>by
  rw[show n+2*(k+1)=n+2*k+1+1 by omega,tally_succ,tally_succ,tally_pairs p n k,tally_succ,tally_succ]
  omega
theorem nextI_prev {n i:Nat} (hi:i<n):nextI n ((i+n-1) % n)=i∧(i+n-1) % n<n:=by
 refine⟨?_,Nat.mod_lt _ (by omega)⟩
 by_cases h:i=0
 ·subst h
  rw[Nat.mod_eq_of_lt (by omega)]
  unfold nextI
  rw[if_neg (by omega)]
 ·rw[show i+n-1=(i-1)+n by omega,Nat.add_mod_right,Nat.mod_eq_of_lt (by omega)]
  unfold nextI
  rw[if_pos (by omega)]
  omega
section
variable {s : List Nat} (hs : IsPerm s) (hes : s.length % 2 = 0) {d : Nat} (hd : d < s.length) {O : List Nat} (hO : orbitL (phiL s) d = O)
include hs hes hd hO
theorem face_cyc {x y:Nat} (hx:x∈O) (hy:y∈O):cyc s.length (at' (phiL s)) x y:=by
 have hp:=phiL_perm hs hes
 have hpl:=phiL_length s
 have hpm:=hp.pm
 rw[hpl] at hpm
 have hqp:=hpm.per
 have key:∀ x,x∈O→cyc s.length (at' (phiL s)) d x:=fun x hx=>by
  rw[←hO] at hx
  have hdp:d<(phiL s).length:=by rw[hpl];exact hd
  have hlt:=orbitL_lt hp hdp x hx
  obtain⟨j,rfl⟩:=(hp.mem_orbit hdp).1 hx
  exact⟨hd,by rw[←hpl];exact hlt,j,(it_itf _ _ _).symm⟩
 exact hqp.trans (hqp.symm (key x hx)) (key y hy)
theorem face_names {j Z:Nat} {a b:Nat→Nat} {J:List Nat} (h:Lab s j Z a b J):∃ L:List Nat,L.length≤1+j∧∀ x,x∈O→b x∈L:=by
 by_cases hx:∃ x,x∈O∧b x∉J
 ·obtain⟨x,hx,hn⟩:=hx
  refine⟨b x :: J,by have:=h.jl;simp;omega,fun y hy=>?_⟩
  rcases h.fb x y (face_cyc hs hes hd hO hx hy) with k|k|k
  ·exact absurd k hn
  ·exact List.mem_cons_of_mem _ k
  ·rw[←k];exact List.mem_cons_self ..
 ·refine⟨J,by have:=h.jl;omega,fun y hy=>?_⟩
  apply Classical.byContradiction
  intro k
  exact hx ⟨y,hy,k⟩
theorem face_len {j Z:Nat} (h:LabP s j Z):O.length≤(1+j)*Z:=by
 obtain⟨a,b,J,h⟩:=h
 obtain⟨k1,k2,k3,k4,k5,_⟩:=star_face hs hes hd hO
 obtain⟨L,hL,hb⟩:=face_names hs hes hd hO h
 have h1:O.length≤tally (fun x=>x∈O) s.length:=by
  have:=tally_inj (fun i=>at' O i) (p:=fun _=>True) (n:=O.length) (m:=s.length) (q:=fun x=>x∈O) (fun i hi _=>by
   have hm:at' O i∈O:=by rw[at'_eq hi];exact List.getElem_mem _
   exact⟨k2 _ hm,hm⟩) (fun x y hx hy _ _ e=>by
   have e:at' O x=at' O y:=e
   rw[at'_eq hx,at'_eq hy] at e
   exact nodup_inj k1 hx hy e)
  rwa [tally_all fun _ _=>trivial] at this
 have h2:=tally_cover (p:=fun x=>x∈O) (q:=b) (n:=s.length) (Z:=Z) (fun B=>Nat.le_trans (tally_mono fun x _ hx=>hx.2) (Nat.le_trans (Nat.le_add_left _ _) (h.cnt B))) L (r:=fun x=>x∈O) (fun x hx=>hx) (fun x _ hx=>hb x hx)
 exact Nat.le_trans h1 (Nat.le_trans h2 (Nat.mul_le_mul_right _ hL))
set_option maxHeartbeats 1000000 in
theorem LabP.star {j Z:Nat} (h:LabP s j Z):LabP (starC s O) j (Z+3*(1+j)):=by
 obtain⟨a,b,J,h⟩:=h
 obtain⟨k1,k2,k3,k4,k5,_⟩:=star_face hs hes hd hO
 obtain⟨L,hL,hb⟩:=face_names hs hes hd hO h
 have hfc:=fun x y hx hy=>face_cyc hs hes hd hO (x:=x) (y:=y) hx hy
 obtain⟨M,hM1,hM2⟩:=fresh a b J s.length
 obtain⟨k,hk⟩:∃ k,O.length=k:=⟨_,rfl⟩
 have hml:∀ i,i<k→at' O i∈O:=fun i hi=>by rw[at'_eq (by omega)];exact List.getElem_mem _
 have hol:∀ i,i<k→at' O i<s.length:=fun i hi=>k2 _ (hml i hi)
 have hidx:∀ x,x∈O→O.idxOf x<k∧at' O (O.idxOf x)=x:=fun x hx=>by
  have h:=List.idxOf_lt_length_of_mem hx
  exact⟨by omega,by rw[at'_eq h];exact List.getElem_idxOf h⟩
 have hinj:∀ i l,i<k→l<k→at' O i=at' O l→i=l:=fun i l hi hl e=>by
  rw[at'_eq (by omega),at'_eq (by omega)] at e
  exact nodup_inj k1 (by omega) (by omega) e
 have hidx2:∀ i,i<k→O.idxOf (at' O i)=i:=fun i hi=>hinj _ _ (hidx _ (hml i hi)).1 hi (hidx _ (hml i hi)).2
 have hgr:=star_grown hs hes hd hO
 have ht:=hgr.perm
 have het:=hgr.even
 have htl:=starC_length s O
 rw[hk] at htl
 have hq:=hs.pm.per
 have hp:=phiL_perm hs hes
 have hpl:=phiL_length s
 have hpm:=hp.pm
 rw[hpl] at hpm
 have hqp:=hpm.per
 have htp:=ht.pm
 rw[htl] at htp
 have hfp:=(phiL_perm ht het).pm
 rw[phiL_length,htl] at hfp
 obtain⟨N,hN⟩:∃ N,s.length=N:=⟨_,rfl⟩
 obtain⟨ρ,ρ0,ρ1⟩:∃ ρ:Nat→Nat,(∀ x,x<N→ρ x=x)∧∀ x,¬ x<N→ρ x=at' O ((x-N) / 2):=⟨fun x=>if x<N then x else at' O ((x-N) / 2),fun x hx=>if_pos hx,fun x hx=>if_neg hx⟩
 obtain⟨T,T0,T1,T2⟩:∃ T:Nat→Nat,(∀ x,x<N→T x=O.idxOf x)∧(∀ i,T (N+2*i)=(i+k-1) % k)∧∀ i,T (N+2*i+1)=i:=
  ⟨fun x=>if x<N then O.idxOf x else if (x-N) % 2=0 then ((x-N) / 2+k-1) % k else (x-N) / 2,fun x hx=>if_pos hx,fun i=>by
   show (if N+2*i<N then _ else if (N+2*i-N) % 2=0 then ((N+2*i-N) / 2+k-1) % k else (N+2*i-N) / 2)=_
   rw[if_neg (by omega),if_pos (by omega),show (N+2*i-N) / 2=i by omega],fun i=>by
   show (if N+2*i+1<N then _ else if (N+2*i+1-N) % 2=0 then ((N+2*i+1-N) / 2+k-1) % k else (N+2*i+1-N) / 2)=_
   rw[if_neg (by omega),if_neg (by omega)]
   omega⟩
 have ρe:∀ i,ρ (N+2*i)=at' O i:=fun i=>by rw[ρ1 _ (by omega),show (N+2*i-N) / 2=i by omega]
 have ρo:∀ i,ρ (N+2*i+1)=at' O i:=fun i=>by rw[ρ1 _ (by omega),show (N+2*i+1-N) / 2=i by omega]
 have hform:∀ x,x<N+2*k→x<N∨(∃ i,i<k∧x=N+2*i)∨∃ i,i<k∧x=N+2*i+1:=fun x hx=>by
  by_cases h1:x<N
  ·exact Or.inl h1
  ·by_cases h2:(x-N) % 2=0
   ·exact Or.inr (Or.inl ⟨(x-N) / 2,by omega,by omega⟩)
   ·exact Or.inr (Or.inr ⟨(x-N) / 2,by omega,by omega⟩)
 have sv:∀ x,x<N→(∃ i,i<k∧at' O i=at' s x∧at' (starC s O) x=N+2*i)∨(at' s x<N∧at' (starC s O) x=at' s x):=fun x hx=>by
  rw[starC_at (by rw[hN];omega)]
  unfold starF
  rw[hN,if_pos hx]
  by_cases hm:at' s x∈O
  ·rw[if_pos hm]
   obtain⟨c1,c2⟩:=hidx _ hm
   exact Or.inl ⟨_,c1,c2,rfl⟩
  ·rw[if_neg hm]
   exact Or.inr ⟨by rw[←hN];exact hs.lt (by rw[hN];exact hx),rfl⟩
 have se:∀ i,i<k→at' (starC s O) (N+2*i)=at' O i:=fun i hi=>by
  rw[starC_at (by rw[hN];omega)]
  unfold starF
  rw[hN,if_neg (by omega),if_pos (by omega),show (N+2*i-N) / 2=i by omega]
 have so:∀ i,i<k→∃ i',i' < k∧at' (starC s O) (N+2*i+1)=N+2*i'+1:=fun i hi=>by
  rw[starC_at (by rw[hN];omega)]
  unfold starF
  rw[hN,if_neg (by omega),if_neg (by omega),hk]
  exact⟨_,Nat.mod_lt _ (by omega),rfl⟩
 have fi:∀ i,i<k→at' (phiL (starC s O)) (N+2*nextI k i)=N+2*i+1:=fun i hi=>by have:=star_phi_in (s:=s) hes (O:=O) (j:=i) (by omega);rwa [hN,hk] at this
 have fo:∀ i,i<k→at' (phiL (starC s O)) (N+2*i+1)=at' O i:=fun i hi=>by have:=star_phi_out (s:=s) hes (O:=O) (j:=i) (by omega);rwa [hN] at this
 have fe:∀ i,i<k→at' (phiL (starC s O)) (at' O i)=N+2*nextI k i:=fun i hi=>by have:=star_phi_edge hs hes hd hO (j:=i) (by omega);rwa [hN,hk] at this
 have fold:∀ x,x<N→x∉O→at' (phiL (starC s O)) x=at' (phiL s) x:=fun x hx ho=>star_phi_old hs hes hd hO (by rw[hN];exact hx) ho
 rw[hN] at hol hq hpm hqp htl htp hfp hM1 k5
 have va:=h.va
 have fb:=h.fb
 have cnt:=h.cnt
 have pr:=h.pr
 have jl:=h.jl
 rw[hN] at va fb cnt pr
 have hst:∀ x,x<N→cyc N (at' s) x (at' s x):=fun x hx=>by have:=hs.pm.step (x:=x) (by rw[hN];exact hx);rwa [hN] at this
 obtain⟨a',a0,a1⟩:∃ a':Nat→Nat,(∀ x,(x<N∨(x-N) % 2=0)→a' x=a (ρ x))∧∀ i,a' (N+2*i+1)=b (at' O i):=
  ⟨fun x=>if x<N∨(x-N) % 2=0 then a (ρ x) else b (ρ x),fun x hx=>if_pos hx,fun i=>by
   show (if N+2*i+1<N∨(N+2*i+1-N) % 2=0 then _ else b (ρ (N+2*i+1)))=_
   rw[if_neg (by omega),ρo]⟩
 obtain⟨b',b0,b1⟩:∃ b':Nat→Nat,(∀ x,x<N→x∉O→b' x=b x)∧∀ x,(¬ x<N∨x∈O)→b' x=M+T x:=
  ⟨fun x=>@ite Nat (x<N∧x∉O) (Classical.propDecidable _) (b x) (M+T x),fun x h1 h2=>@if_pos _ (Classical.propDecidable _) ⟨h1,h2⟩ _ _ _,fun x h1=>@if_neg _ (Classical.propDecidable _) (fun h2=>h1.elim (fun k=>k h2.1) (fun k=>h2.2 k)) _ _ _⟩
 have hTlt:∀ x,x<N+2*k→(¬ x<N∨x∈O)→T x<k:=fun x hx h1=>by
  rcases hform x hx with h2|⟨i,hi,rfl⟩|⟨i,hi,rfl⟩
  ·rw[T0 x h2];exact (hidx x (h1.resolve_left (fun k=>k h2))).1
  ·rw[T1];exact Nat.mod_lt _ (by omega)
  ·rw[T2];exact hi
 have htri:∀ x,x<N+2*k→(¬ x<N∨x∈O)→x∈[at' O (T x),N+2*nextI k (T x),N+2*T x+1]:=fun x hx h1=>by
  rcases hform x hx with h2|⟨i,hi,rfl⟩|⟨i,hi,rfl⟩
  ·rw[T0 x h2,(hidx x (h1.resolve_left (fun k=>k h2))).2];simp
  ·rw[T1,(nextI_prev hi).1];simp
  ·rw[T2];simp
 have hold:∀ x,x<N→b x<M:=fun x hx=>(hM1 x hx).2
 refine⟨a',b',J,jl,fun x y hc=>?_,fun x y hc=>?_,fun A=>?_,fun A B=>?_⟩
 ·rw[htl] at hc
  have hper:Per (N+2*k) (fun x y=>x<N+2*k∧y<N+2*k∧(((x<N∨(x-N) % 2=0)∧(y<N∨(y-N) % 2=0)∧cyc N (at' s) (ρ x) (ρ y))∨(¬ (x<N∨(x-N) % 2=0)∧¬ (y<N∨(y-N) % 2=0)))):=by
   have ρl:∀ x,x<N+2*k→ρ x<N:=fun x hx=>by
    by_cases h1:x<N
    ·rw[ρ0 x h1];exact h1
    ·rw[ρ1 x h1];exact hol _ (by omega)
   refine⟨fun {x} hx=>⟨hx,hx,?_⟩,?_,?_,fun k=>k.1⟩
   ·by_cases h1:x<N∨(x-N) % 2=0
    ·exact Or.inl ⟨h1,h1,hq.refl (ρl x hx)⟩
    ·exact Or.inr ⟨h1,h1⟩
   ·rintro x y ⟨c1,c2,⟨c3,c4,c5⟩|⟨c3,c4⟩⟩
    ·exact⟨c2,c1,Or.inl ⟨c4,c3,hq.symm c5⟩⟩
    ·exact⟨c2,c1,Or.inr ⟨c4,c3⟩⟩
   ·rintro x y z ⟨c1,c2,⟨c3,c4,c5⟩|⟨c3,c4⟩⟩ ⟨d1,d2,⟨d3,d4,d5⟩|⟨d3,d4⟩⟩
    ·exact⟨c1,d2,Or.inl ⟨c3,d4,hq.trans c5 d5⟩⟩
    ·exact absurd c4 d3
    ·exact absurd d3 c4
    ·exact⟨c1,d2,Or.inr ⟨c3,d4⟩⟩
  have hsub:=htp.cyc_sub hper (fun z hz=>by
   refine⟨hz,htp.lt hz,?_⟩
   rcases hform z hz with h1|⟨i,hi,rfl⟩|⟨i,hi,rfl⟩
   ·rw[ρ0 z h1]
    rcases sv z h1 with ⟨i,hi,e1,e2⟩|⟨e1,e2⟩
    ·rw[e2,ρe,e1];exact Or.inl ⟨Or.inl h1,Or.inr (by omega),hst z h1⟩
    ·rw[e2,ρ0 _ e1];exact Or.inl ⟨Or.inl h1,Or.inl e1,hst z h1⟩
   ·rw[se i hi,ρe,ρ0 _ (hol i hi)];exact Or.inl ⟨Or.inr (by omega),Or.inl (hol i hi),hq.refl (hol i hi)⟩
   ·obtain⟨i',hi',e⟩:=so i hi
    rw[e];exact Or.inr ⟨by omega,by omega⟩) hc
  rcases hsub with ⟨c1,c2,⟨c3,c4,c5⟩|⟨c3,c4⟩⟩
  ·rw[a0 x c3,a0 y c4];exact va _ _ c5
  ·obtain⟨i,hi,rfl⟩:∃ i,i<k∧x=N+2*i+1:=⟨(x-N) / 2,by omega,by omega⟩
   obtain⟨i',hi',rfl⟩:∃ i,i<k∧y=N+2*i+1:=⟨(y-N) / 2,by omega,by omega⟩
   rw[a1,a1]
   have:=hfc _ _ (hml i hi) (hml i' hi')
   rw[hN] at this
   exact fb _ _ this
 ·rw[htl] at hc
  have hper:Per (N+2*k) (fun x y=>x<N+2*k∧y<N+2*k∧((x<N∧x∉O∧y<N∧y∉O∧cyc N (at' (phiL s)) x y)∨((¬ x<N∨x∈O)∧(¬ y<N∨y∈O)∧T x=T y))):=by
   refine⟨fun {x} hx=>⟨hx,hx,?_⟩,?_,?_,fun k=>k.1⟩
   ·by_cases h1:¬ x<N∨x∈O
    ·exact Or.inr ⟨h1,h1,rfl⟩
    ·have h2:x<N:=Classical.byContradiction fun c=>h1 (Or.inl c)
     exact Or.inl ⟨h2,fun c=>h1 (Or.inr c),h2,fun c=>h1 (Or.inr c),hqp.refl h2⟩
   ·rintro x y ⟨c1,c2,⟨c3,c4,c5,c6,c7⟩|⟨c3,c4,c5⟩⟩
    ·exact⟨c2,c1,Or.inl ⟨c5,c6,c3,c4,hqp.symm c7⟩⟩
    ·exact⟨c2,c1,Or.inr ⟨c4,c3,c5.symm⟩⟩
   ·rintro x y z ⟨c1,c2,⟨c3,c4,c5,c6,c7⟩|⟨c3,c4,c5⟩⟩ ⟨d1,d2,⟨d3,d4,d5,d6,d7⟩|⟨d3,d4,d5⟩⟩
    ·exact⟨c1,d2,Or.inl ⟨c3,c4,d5,d6,hqp.trans c7 d7⟩⟩
    ·exact absurd d3 (fun c=>c.elim (fun c=>c c5) (fun c=>c6 c))
    ·exact absurd c4 (fun c=>c.elim (fun c=>c d3) (fun c=>d4 c))
    ·exact⟨c1,d2,Or.inr ⟨c3,d4,c5.trans d5⟩⟩
  have hsub:=hfp.cyc_sub hper (fun z hz=>by
   refine⟨hz,hfp.lt hz,?_⟩
   rcases hform z hz with h1|⟨i,hi,rfl⟩|⟨i,hi,rfl⟩
   ·by_cases hm:z∈O
    ·obtain⟨c1,c2⟩:=hidx z hm
     have e:=fe _ c1
     rw[c2] at e
     rw[e,T0 z h1,T1]
     refine Or.inr ⟨Or.inr hm,Or.inl (by omega),?_⟩
     have:=nextI_back c1
     exact this.symm
    ·rw[fold z h1 hm]
     refine Or.inl ⟨h1,hm,hpm.lt h1,fun c=>hm ((k5 z h1).1 c),hpm.step h1⟩
   ·obtain⟨p1,p2⟩:=nextI_prev hi
    have e:=fi _ p2
    rw[p1] at e
    rw[e,T1,T2]
    exact Or.inr ⟨Or.inl (by omega),Or.inl (by omega),rfl⟩
   ·rw[fo i hi,T2,T0 _ (hol i hi),hidx2 i hi]
    exact Or.inr ⟨Or.inl (by omega),Or.inr (hml i hi),rfl⟩) hc
  rcases hsub with ⟨c1,c2,⟨c3,c4,c5,c6,c7⟩|⟨c3,c4,c5⟩⟩
  ·rw[b0 x c3 c4,b0 y c5 c6];exact fb _ _ c7
  ·rw[b1 x c3,b1 y c4,c5];exact Or.inr (Or.inr rfl)
 ·rw[htl]
  by_cases hA:A<M
  ·have e1:tally (fun x=>a' x=A) (N+2*k)≤tally (fun x=>a x=A) N+3*(1+j)+tally (fun x=>x∈O∧b x=A) N:=by
    rw[tally_pairs]
    have f1:tally (fun x=>a' x=A) N=tally (fun x=>a x=A) N:=tally_congr fun x hx=>by rw[a0 x (Or.inl hx),ρ0 x hx]
    have f2:tally (fun i=>a' (N+2*i)=A) k≤tally (fun x=>x∈O∧a x=A) N:=tally_inj (fun i=>at' O i) (fun i hi e=>by
     rw[a0 _ (Or.inr (by omega)),ρe] at e
     exact⟨hol i hi,hml i hi,e⟩) (fun x y hx hy _ _ e=>by
     have e:at' O x=at' O y:=e
     rw[←hidx2 x hx,←hidx2 y hy,e])
    have f3:tally (fun i=>a' (N+2*i+1)=A) k≤tally (fun x=>x∈O∧b x=A) N:=tally_inj (fun i=>at' O i) (fun i hi e=>by
     rw[a1] at e
     exact⟨hol i hi,hml i hi,e⟩) (fun x y hx hy _ _ e=>by
     have e:at' O x=at' O y:=e
     rw[←hidx2 x hx,←hidx2 y hy,e])
    have f4:=tally_cover (p:=fun x=>x∈O∧a x=A) (q:=b) (n:=N) (Z:=3) (fun B=>Nat.le_trans (tally_mono fun x _ hx=>⟨hx.1.2,hx.2⟩) (pr A B)) L (r:=fun x=>x∈O∧a x=A) (fun x hx=>hx) (fun x _ hx=>hb x hx.1)
    have f5:L.length*3≤3*(1+j):=by omega
    omega
   have e2:tally (fun x=>b' x=A) (N+2*k)≤tally (fun x=>¬ x∈O∧b x=A) N:=by
    rw[tally_more (n:=N) (by omega) (fun x h1 h2 e=>by rw[b1 x (Or.inl (by omega))] at e;omega)]
    refine tally_mono fun x hx e=>?_
    by_cases hm:x∈O
    ·rw[b1 x (Or.inr hm)] at e;omega
    ·rw[b0 x hx hm] at e;exact⟨hm,e⟩
   have e3:=tally_split (fun x=>b x=A) (fun x=>x∈O) N
   have e4:tally (fun x=>b x=A∧x∈O) N=tally (fun x=>x∈O∧b x=A) N:=tally_congr fun x _=>And.comm
   have e5:tally (fun x=>b x=A∧¬ x∈O) N=tally (fun x=>¬ x∈O∧b x=A) N:=tally_congr fun x _=>And.comm
   have:=cnt A
   omega
  ·have e1:tally (fun x=>a' x=A) (N+2*k)=0:=tally_none fun x hx e=>by
    rcases hform x hx with h1|⟨i,hi,rfl⟩|⟨i,hi,rfl⟩
    ·rw[a0 x (Or.inl h1),ρ0 x h1] at e
     have:=(hM1 x h1).1;omega
    ·rw[a0 _ (Or.inr (by omega)),ρe] at e
     have:=(hM1 _ (hol i hi)).1;omega
    ·rw[a1] at e
     have:=hold _ (hol i hi);omega
   have e2:tally (fun x=>b' x=A) (N+2*k)≤3:=by
    refine tally_list [at' O (A-M),N+2*nextI k (A-M),N+2*(A-M)+1] fun x hx e=>?_
    by_cases h1:¬ x<N∨x∈O
    ·rw[b1 x h1] at e
     have:=htri x hx h1
     rwa [show T x=A-M by omega] at this
    ·have h2:x<N:=Classical.byContradiction fun c=>h1 (Or.inl c)
     rw[b0 x h2 (fun c=>h1 (Or.inr c))] at e
     have:=hold x h2;omega
   omega
 ·rw[htl]
  by_cases hB:B<M
  ·refine Nat.le_trans ?_ (pr A B)
   rw[tally_more (n:=N) (by omega) (fun x h1 h2 e=>by have e:=e.2;rw[b1 x (Or.inl (by omega))] at e;omega)]
   refine tally_mono fun x hx e=>?_
   obtain⟨e1,e2⟩:=e
   rw[a0 x (Or.inl hx),ρ0 x hx] at e1
   by_cases hm:x∈O
   ·rw[b1 x (Or.inr hm)] at e2;omega
   ·rw[b0 x hx hm] at e2;exact⟨e1,e2⟩
  ·refine tally_list [at' O (B-M),N+2*nextI k (B-M),N+2*(B-M)+1] fun x hx e=>?_
   have e:=e.2
   by_cases h1:¬ x<N∨x∈O
   ·rw[b1 x h1] at e
    have:=htri x hx h1
    rwa [show T x=B-M by omega] at this
   ·have h2:x<N:=Classical.byContradiction fun c=>h1 (Or.inl c)
    rw[b0 x h2 (fun c=>h1 (Or.inr c))] at e
    have:=hold x h2;omega
end
end
section
set_option linter.unusedVariables false
set_option linter.unusedSimpArgs false
def zB (j t:Nat):Nat:=2+2*j+3*(1+j)*t
def eB (j:Nat):Nat→Nat
 | 0=>1+j
 | t+1=>eB j t+(1+j)*zB j t
theorem zB_succ (j t:Nat):zB j (t+1)=zB j t+3*(1+j):=by unfold zB;rw[Nat.mul_succ];omega
theorem zB_more (j t:Nat):zB j t+2≤zB (j+1) t:=by
 unfold zB
 have:3*(1+j)*t≤3*(1+(j+1))*t:=Nat.mul_le_mul_right _ (by omega)
 omega
theorem eB_more (j:Nat):∀ t,eB j t+1≤eB (j+1) t
 | 0=>by unfold eB;omega
 | t+1=>by
  have h1:=eB_more j t
  have h2:(1+j)*zB j t≤(1+(j+1))*zB (j+1) t:=Nat.mul_le_mul (by omega) (by have:=zB_more j t;omega)
  unfold eB
  omega
theorem eB_all:((List.range 27).all fun j=>(List.range 27).all fun t=>decide (j+t≤25→eB j t≤49500))=true:=by decide +kernel
theorem eB_le {j t:Nat} (h:j+t≤25):eB j t≤49500:=by
 have h1:=List.all_eq_true.1 eB_all j (List.mem_range.2 (by omega))
 have h2:=List.all_eq_true.1 h1 t (List.mem_range.2 (by omega))
 exact of_decide_eq_true h2 h
def GrowP (s:List Nat) (c:Nat):Prop:=∃ j t,j+t≤c∧LabP s j (zB j t)∧s.length / 2≤eB j t
theorem GrowP.mono {s:List Nat} {c c':Nat} (h:GrowP s c) (hc:c≤c'):GrowP s c':=by
 obtain⟨j,t,h1,h2⟩:=h
 exact⟨j,t,by omega,h2⟩
theorem GrowP.le {s:List Nat} {c:Nat} (h:GrowP s c) (hc:c≤25):s.length / 2≤49500:=by
 obtain⟨j,t,h1,h2,h3⟩:=h
 exact Nat.le_trans h3 (eB_le (by omega))
theorem GrowP.other {s t:List Nat} {c:Nat} (h:GrowP s c) (hl:∀ {j Z:Nat},1≤Z→LabP s j Z→LabP t (j+1) (Z+2)) (he:t.length / 2≤s.length / 2+1):GrowP t (c+1):=by
 obtain⟨j,k,h1,h2,h3⟩:=h
 have:=eB_more j k
 exact⟨j+1,k,by omega,(hl (by unfold zB;omega) h2).mono (Nat.le_refl _) (zB_more j k),by omega⟩
theorem GrowP.star {s:List Nat} {c:Nat} (h:GrowP s c) (hs:IsPerm s) (hes:s.length % 2=0) {d:Nat} (hd:d<s.length) (hc:c≤24):GrowP (starC s (orbitL (phiL s) d)) (c+1)∧s.length+2*(orbitL (phiL s) d).length≤99000:=by
 obtain⟨j,t,h1,h2,h3⟩:=h
 have hf:=face_len hs hes hd rfl h2
 have hb:eB j (t+1)≤49500:=eB_le (by omega)
 have he:eB j (t+1)=eB j t+(1+j)*zB j t:=rfl
 refine⟨⟨j,t+1,by omega,?_,?_⟩,by omega⟩
 ·rw[zB_succ];exact LabP.star hs hes hd rfl h2
 ·rw[starC_length];omega
theorem GrowP.seed:GrowP [0,1] 0:=by
 refine⟨0,0,Nat.le_refl _,⟨fun x=>x,fun _=>2,[],Nat.le_refl _,fun x y hc=>?_,fun x y hc=>Or.inr (Or.inr rfl),fun A=>?_,fun A B=>?_⟩,by decide⟩
 ·refine Or.inr (Or.inr ?_)
  obtain⟨hx,hy,k,e⟩:=hc
  have hfix:∀ x,x<2→at' [0,1] x=x:=fun x hx=>by
   rcases (by omega:x=0∨x=1) with rfl|rfl <;> rfl
  have:∀ k,itf (at' [0,1]) k x=x:=fun k=>by
   induction k with
   | zero=>rfl
   | succ k ih=>rw[itf_succ,ih,hfix x hx]
  rw[this k] at e
  exact e
 ·show tally (fun x=>x=A) 2+tally (fun x=>2=A) 2≤2
  by_cases hA:2=A
  ·have h1:tally (fun x=>x=A) 2=0:=tally_none fun x hx e=>by omega
   have h2:=tally_le (fun x=>2=A) 2
   omega
  ·have h1:tally (fun x=>2=A) 2=0:=tally_none fun x hx e=>hA e
   have h2:=tally_le (fun x=>x=A) 2
   omega
 ·exact Nat.le_trans (tally_le _ _) (show [0,1].length≤3 by decide)
theorem act_grow {s:List Nat} (hs:IsPerm s) (he:s.length % 2=0) {c:Nat} (h:GrowP s c) (hc:c≤24) {root:Int} (hr:s.length=0∨0≤root∧root<s.length) (lone:Int) {k:Nat} (hk:k≤10) (d e:Nat)
  (hok:k<5→wayR s.length k (d:Int) (e:Int)=true∧wayB s k (d:Int) (e:Int)=true) (h8:k=8∨k=9→d<s.length):GrowP (actM s root (k:Int) (d:Int) (e:Int)) (c+1):=by
 have hin:∀ {x:Nat},inR s.length (x:Int)=true→x<s.length:=fun {x} h=>by
  unfold inR at h
  have:=of_decide_eq_true h
  omega
 by_cases h5:k<5
 ·obtain⟨h1,h2⟩:=hok h5
  rw[(actC_way s root lone h5 (d:Int) (e:Int)).2]
  rcases (by omega:k=0∨k=1∨k=2∨k=3∨k=4) with rfl|rfl|rfl|rfl|rfl
  ·have hd:d<s.length:=hin h1
   exact h.other (fun _ hl=>lab_leaf hs he hd hl) (by rw[show wayL s 0 (d:Int) (e:Int)=leafL s d from rfl,leafL_length];omega)
  ·have h1':(inR s.length (d:Int) && inR s.length (e:Int))=true:=h1
   rw[Bool.and_eq_true] at h1'
   have hd:d<s.length:=hin h1'.1
   have he':e<s.length:=hin h1'.2
   have h3:nameI (phiL s) (atI s (d:Int))=nameI (phiL s) (atI s (e:Int)):=of_decide_eq_true h2
   rw[atI_in hd,atI_in he',nameI_in (by rw[phiL_length];exact hs.lt hd),nameI_in (by rw[phiL_length];exact hs.lt he')] at h3
   exact h.other (fun _ hl=>lab_chord hs he hd hl he' h3) (by rw[show wayL s 1 (d:Int) (e:Int)=chordL s d e from rfl,show (chordL s d e).length=s.length+2 by unfold chordL;rw[behindL_length,leafL_length]];omega)
  ·have hd:d<s.length:=hin h1
   exact h.other (fun _ hl=>lab_split hs he hd hl) (by rw[show wayL s 2 (d:Int) (e:Int)=splitL s d from rfl,splitL_length];omega)
  ·have hd:d<s.length:=hin h1
   have e1:wayL s 3 (d:Int) (e:Int)=starC s (orbitL (phiL s) d):=by
    show starL s d=_
    obtain⟨k1,k2,k3,_⟩:=star_face hs he hd rfl
    unfold starL
    rw[starGo_eq hs k1 k2 _ (Nat.le_refl _),stG_all k3]
   rw[e1]
   exact (h.star hs he hd hc).1
  ·have hd:d<s.length:=hin h1
   have h3:flipB s d=true:=h2
   unfold flipB at h3
   have hm:=xor_one_lt he hd
   rw[orbI_in (by rw[phiL_length];exact hd),orbI_in (by rw[phiL_length];exact hm),nameI_in (by rw[phiL_length];exact hd),nameI_in (by rw[phiL_length];exact hm),toI_length,toI_length] at h3
   simp only[Bool.and_eq_true,decide_eq_true_eq,Bool.not_eq_true',decide_eq_false_iff_not] at h3
   obtain⟨m,pd,pa,pm,pb,hF⟩:=flipD_of hs he hd h3.1.1.1.1 h3.1.1.1.2 h3.1.1.2 h3.1.2 h3.2
   exact h.other (fun hz hl=>LabP.flip hs he hF hz hl) (by rw[show wayL s 4 (d:Int) (e:Int)=flipL s d from rfl,flipL_length];omega)
 ·have more:∀ {t:List Nat},(∀ {j Z:Nat},LabP s j Z→LabP t j Z)→t.length=s.length→GrowP t (c+1):=fun {t} hl e=>by
   obtain⟨j,k,h1,h2,h3⟩:=h
   exact⟨j,k,by omega,hl h2,by rw[e];exact h3⟩
  rcases (by omega:k=5∨k=6∨k=7∨k=8∨k=9∨k=10) with rfl|rfl|rfl|rfl|rfl|rfl
  ·exact (h.mono (by omega):GrowP s (c+1))
  ·exact more (t:=phiL s) (fun hl=>hl.dual he) (phiL_length s)
  ·exact more (t:=invL s) (fun hl=>hl.mirror hs he) (invL_length s)
  ·have hd:=h8 (Or.inl rfl)
   have hn:2*(d / 2)+2≤s.length:=by omega
   show GrowP (doneL s ((d:Int).toNat / 2)) (c+1)
   rw[Int.toNat_natCast]
   exact h.other (fun _ hl=>(hl.cut hs he hn).mono (Nat.le_refl _) (by omega)) (by rw[doneL_length];omega)
  ·have hd:=h8 (Or.inr rfl)
   have hn:2*(d / 2)+2≤s.length:=by omega
   show GrowP (doneL (exL s ((d:Int).toNat / 2)) ((d:Int).toNat / 2)) (c+1)
   rw[Int.toNat_natCast]
   exact h.other (fun _ hl=>(hl.shrink hs he hn).mono (Nat.le_refl _) (by omega)) (by rw[doneL_length,exL_length];omega)
  ·show GrowP (canM s root) (c+1)
   unfold canM
   by_cases h0:s.length=0
   ·rw[if_pos h0];exact h.mono (by omega)
   ·rw[if_neg h0]
    have hr:root.toNat<s.length:=by omega
    exact more (fun hl=>hl.names hs he (canL_perm hs he hr) (canP_length _ _) (canL_mates hs he hr)) (relL_length _ _)
structure PlayP (q:List Nat × Int × Int) (c:Nat):Prop where
 plan:PlanP q.1
 grow:GrowP q.1 c
 ok:MapOk q.1 q.2.1 q.2.2
 lone:q.2.2≤2*c
theorem PlayP.seed:PlayP ([0,1],0,0) 0:=⟨plan_seed,GrowP.seed,⟨rfl,by decide,by decide,by decide,Or.inr ⟨by decide,by decide⟩⟩,by decide⟩
theorem PlayP.new {s:List Nat} {root lone:Int} {c:Nat} (h:PlayP (s,root,lone) c) (hc:c≤24) {k:Nat} (hk:k<5) (d e:Nat) (h1:wayR s.length k (d:Int) (e:Int)=true) (h2:wayB s k (d:Int) (e:Int)=true):
  MapOk (wayL s k (d:Int) (e:Int)) root lone∧newErr (toI (wayL s k (d:Int) (e:Int))) root lone=0:=by
 have hp:=h.plan
 have hok:=h.ok
 have hr:s.length=0∨0≤root∧root<s.length:=by have:=hok.2.2.2.2;dsimp only at this;omega
 have hg:=act_grow hp.1 hp.2.1 h.grow hc hr lone (k:=k) (by omega) d e (fun _=>⟨h1,h2⟩) (fun h=>by omega)
 dsimp only at hg
 rw[(actC_way s root lone hk (d:Int) (e:Int)).2] at hg
 have hle:=hg.le (by omega)
 have hgr:∃ v f,GrownL s (wayL s k (d:Int) (e:Int)) v f∧0≤v+f:=by
  have hin:∀ {x:Nat},inR s.length (x:Int)=true→x<s.length:=fun {x} h=>by
   unfold inR at h
   have:=of_decide_eq_true h
   omega
  have hs:=hp.1
  have he:=hp.2.1
  dsimp only at hs he
  rcases (by omega:k=0∨k=1∨k=2∨k=3∨k=4) with rfl|rfl|rfl|rfl|rfl
  ·exact⟨1,0,leaf_grown hs he (hin h1),by decide⟩
  ·have h1':(inR s.length (d:Int) && inR s.length (e:Int))=true:=h1
   rw[Bool.and_eq_true] at h1'
   have hd:d<s.length:=hin h1'.1
   have he':e<s.length:=hin h1'.2
   have h3:nameI (phiL s) (atI s (d:Int))=nameI (phiL s) (atI s (e:Int)):=of_decide_eq_true h2
   rw[atI_in hd,atI_in he',nameI_in (by rw[phiL_length];exact hs.lt hd),nameI_in (by rw[phiL_length];exact hs.lt he')] at h3
   exact⟨0,1,chord_grown hs he hd he' h3,by decide⟩
  ·exact⟨1,0,split_grown hs he rfl (hin h1),by decide⟩
  ·exact⟨1,_,(starL_grown hs he (hin h1)).1,by omega⟩
  ·have hd:d<s.length:=hin h1
   have h3:flipB s d=true:=h2
   unfold flipB at h3
   have hm:=xor_one_lt he hd
   rw[orbI_in (by rw[phiL_length];exact hd),orbI_in (by rw[phiL_length];exact hm),nameI_in (by rw[phiL_length];exact hd),nameI_in (by rw[phiL_length];exact hm),toI_length,toI_length] at h3
   simp only[Bool.and_eq_true,decide_eq_true_eq,Bool.not_eq_true',decide_eq_false_iff_not] at h3
   obtain⟨m,pd,pa,pm,pb,hF⟩:=flipD_of hs he hd h3.1.1.1.1 h3.1.1.1.2 h3.1.1.2 h3.1.2 h3.2
   exact⟨0,0,FlipD.grown hs he hF,by decide⟩
 obtain⟨v,f,hgr,hvf⟩:=hgr
 have hes:=hgr.es
 have hev:=hgr.even
 have hm:MapOk (wayL s k (d:Int) (e:Int)) root lone:=by
  obtain⟨o1,o2,o3,o4,o5⟩:=hok
  dsimp only at o1 o2 o3 o4 o5
  have hin0:0<s.length:=by
   rcases (by omega:s.length=0∨0<s.length) with h0|h0
   ·exfalso
    unfold wayR inR at h1
    rw[h0] at h1
    split at h1
    ·rw[Bool.and_eq_true] at h1
     have:=of_decide_eq_true h1.1
     omega
    ·have:=of_decide_eq_true h1
     omega
   ·exact h0
  exact⟨hev,by omega,o3,o4,Or.inr (by omega)⟩
 exact⟨hm,newErr_ok hgr.perm hm⟩
theorem PlayP.step {q:List Nat × Int × Int} {c:Nat} (h:PlayP q c) (hc:c≤24) {a:Nat × Nat × Nat} (ha:a.1≤10):PlayP (stepP q a).1 (c+1):=by
 obtain⟨s,root,lone⟩:=q
 have hp:=h.plan
 have hok:=h.ok
 dsimp only at hp hok
 have hr:s.length=0∨0≤root∧root<s.length:=by have:=hok.2.2.2.2;omega
 unfold stepP
 dsimp only
 obtain⟨D,hD⟩:∃ D,a.2.1 % max s.length 1=D:=⟨_,rfl⟩
 obtain⟨E,hE⟩:∃ E,a.2.2 % max s.length 1=E:=⟨_,rfl⟩
 obtain⟨k,hk⟩:∃ k,a.1=k:=⟨_,rfl⟩
 rw[hD,hE,hk]
 rw[hk] at ha
 by_cases hcd:actC s root lone (k:Int) (D:Int) (E:Int)=0
 ·rw[if_pos hcd]
  have hplan:=(act_plan hp hr lone ha D E hcd).1
  have hway:k<5→wayR s.length k (D:Int) (E:Int)=true∧wayB s k (D:Int) (E:Int)=true:=fun h5=>by
   rw[(actC_way s root lone h5 (D:Int) (E:Int)).1] at hcd
   unfold wayC at hcd
   have h1:wayR s.length k (D:Int) (E:Int)=true:=by
    cases h:wayR s.length k (D:Int) (E:Int) with
    | true=>rfl
    | false=>rw[h,if_pos rfl] at hcd;omega
   rw[h1,if_neg (by simp)] at hcd
   refine⟨h1,?_⟩
   cases h:wayB s k (D:Int) (E:Int) with
   | true=>rfl
   | false=>rw[h,if_pos rfl] at hcd;omega
  have h89:k=8∨k=9→D<s.length:=fun h8=>by
   unfold actC at hcd
   rw[if_neg (by omega)] at hcd
   rcases h8 with rfl|rfl
   ·have hcd:(if (D:Int)<0 then (1:Int) else if (D:Int).toNat<s.length then 0 else 1)=0:=hcd
    rw[Int.toNat_natCast,if_neg (by omega)] at hcd
    apply Classical.byContradiction
    intro hn
    rw[if_neg hn] at hcd;omega
   ·have hcd:(if (D:Int)<0 then (1:Int) else if (D:Int).toNat<s.length then (if nth (namesL s) (2*((D:Int).toNat / 2))=nth (namesL s) (2*((D:Int).toNat / 2)+1) then 8 else 0) else 1)=0:=hcd
    rw[Int.toNat_natCast,if_neg (by omega)] at hcd
    apply Classical.byContradiction
    intro hn
    rw[if_neg hn] at hcd;omega
  have hgrow:=act_grow hp.1 hp.2.1 h.grow hc hr lone ha D E hway h89
  have hln:=actLn_le s lone (k:Int) (D:Int)
  have hl0:=h.lone
  dsimp only at hl0
  refine⟨hplan,hgrow,?_,by show actLn s lone (k:Int) (D:Int)≤_;omega⟩
  show MapOk (actM s root (k:Int) (D:Int) (E:Int)) (actRt s root (k:Int) (D:Int)) (actLn s lone (k:Int) (D:Int))
  obtain⟨o1,o2,o3,o4,o5⟩:=hok
  by_cases h5:k<5
  ·obtain⟨w1,w2⟩:=hway h5
   have hm:=(h.new hc h5 D E w1 w2).1
   rw[(actC_way s root lone h5 (D:Int) (E:Int)).2]
   have hrl:actRt s root (k:Int) (D:Int)=root∧actLn s lone (k:Int) (D:Int)=lone:=by
    rcases (by omega:k=0∨k=1∨k=2∨k=3∨k=4) with rfl|rfl|rfl|rfl|rfl <;> exact⟨rfl,rfl⟩
   rw[hrl.1,hrl.2]
   exact hm
  ·rcases (by omega:k=5∨k=6∨k=7∨k=8∨k=9∨k=10) with rfl|rfl|rfl|rfl|rfl|rfl
   ·have hd:inR s.length (D:Int)=true:=by
     have hcd:(if inR s.length (D:Int)=true then (0:Int) else 5)=0:=hcd
     apply Classical.byContradiction
     intro hn
     rw[if_neg hn] at hcd;omega
    have hd2:0≤(D:Int)∧(D:Int)<s.length:=of_decide_eq_true hd
    exact⟨o1,o2,o3,o4,Or.inr hd2⟩
   ·show MapOk (phiL s) root lone
    unfold MapOk;rw[phiL_length];exact⟨o1,o2,o3,o4,o5⟩
   ·show MapOk (invL s) root lone
    unfold MapOk;rw[invL_length];exact⟨o1,o2,o3,o4,o5⟩
   ·have hd:=h89 (Or.inl rfl)
    have h1:=cutLone_le s (D / 2)
    show MapOk (doneL s ((D:Int).toNat / 2)) (rootL s ((D:Int).toNat / 2) root.toNat) (lone+cutLone s ((D:Int).toNat / 2))
    rw[Int.toNat_natCast]
    exact MapOk.less ⟨o1,o2,o3,o4,o5⟩ hp.1 rfl (by omega) ⟨h1.1,by omega⟩
   ·have hd:=h89 (Or.inr rfl)
    have h1:=shrLone_le s (D / 2)
    show MapOk (doneL (exL s ((D:Int).toNat / 2)) ((D:Int).toNat / 2)) (rootL s ((D:Int).toNat / 2) root.toNat) (lone+shrLone s ((D:Int).toNat / 2))
    rw[Int.toNat_natCast]
    exact MapOk.less ⟨o1,o2,o3,o4,o5⟩ hp.1 (exL_length _ _) (by omega) ⟨h1.1,by omega⟩
   ·show MapOk (canM s root) (canR s root) lone
    unfold canM canR
    by_cases h0:s.length=0
    ·rw[if_pos h0,if_pos h0];exact⟨o1,o2,o3,o4,o5⟩
    ·rw[if_neg h0,if_neg h0]
     unfold MapOk
     rw[relL_length]
     exact⟨o1,o2,o3,o4,Or.inr (by omega)⟩
 ·rw[if_neg hcd]
  have hl0:=h.lone
  dsimp only at hl0
  exact⟨hp,h.grow.mono (by omega),hok,by show lone≤_;omega⟩
theorem play_all {l:List (Nat × Nat × Nat)} (hl:l.length≤25) (ha:∀ i,i<l.length→(actAt l i).1≤10):∀ i,i≤l.length→PlayP (playL (l.take i)).1 i
 | 0,_=>PlayP.seed
 | i+1,hi=>by
  rw[playL_take (by omega)]
  exact (play_all hl ha i (by omega)).step (by omega) (ha i (by omega))
end
end Go.Proofs.YtklkgicjfnbndaaGreat
