/- Of a border of a planar map, simple, one at least of those that aren't its two ends is joined with no other one of the border but its two neighbours: the count. -/
import Derived.Test.YtgphnkkdmlohlaaGreatDoorZWoodNo05
namespace Go.Proofs.YtgphnkkdmlohlaaGreatDoor
section
set_option linter.unusedVariables false
set_option linter.unusedSectionVars false
theorem tally_one {p:Nat→Prop} {n:Nat} (h:∀ x y,x<n→y<n→p x→p y→x=y):tally p n≤1:=by
 have:=tally_inj (fun _=>0) (p:=p) (m:=1) (n:=n) (q:=Any) (fun _ _ _=>⟨by omega,trivial⟩) (fun x y hx hy px py _=>h x y hx hy px py)
 exact Nat.le_trans this (tally_le _ _)
section
variable {n : Nat} {f : Nat → Nat} {k : Nat} {a : Nat → Nat}
variable (hs : Simp n f) (hr : Rim n f k a)
include hs hr
variable {g : Nat → Nat} (hg : PullF n f (offB n f k a) g)
include hg
theorem Rim.vert:cls (cyc n g) Any n≤tally (offB n f k a) n+(k+1):=by
 unfold cls
 rw[tally_split _ (offB n f k a)]
 refine Nat.add_le_add (tally_mono fun x _ h=>h.2) ?_
 classical
 have hidx:∀ x,x<n→¬ offB n f k a x→∃ i,i≤k∧Go.Proofs.YtgphnkkdmlohlaaGreatDoor.cyc n f (a i) x:=fun x hx h=>(on_of hx h).1
 refine Nat.le_trans (tally_inj (fun x=>if h:x<n∧¬ offB n f k a x then Classical.choose (hidx x h.1 h.2) else 0) (q:=Any) (m:=k+1) (fun x hx h=>⟨?_,trivial⟩) (fun x y hx hy px py e=>?_)) (tally_le _ _)
 ·have hh:x<n∧¬ offB n f k a x:=⟨hx,h.2⟩
  simp only[dif_pos hh]
  have:=(Classical.choose_spec (hidx x hh.1 hh.2)).1
  omega
 ·have hh:x<n∧¬ offB n f k a x:=⟨hx,px.2⟩
  have hh':y<n∧¬ offB n f k a y:=⟨hy,py.2⟩
  simp only[dif_pos hh,dif_pos hh'] at e
  have k1:=(Classical.choose_spec (hidx x hh.1 hh.2)).2
  have k2:=(Classical.choose_spec (hidx y hh'.1 hh'.2)).2
  rw[←e] at k2
  have k3:=hg.cyc hs.pm px.2 py.2 (hs.pm.per.trans (hs.pm.per.symm k1) k2)
  exact hg.pm.per.least_one px.1.2 py.1.2 k3
theorem Rim.half:tally (offB n f k a) n=2*tally (fun x=>offB n f k a x∧x % 2=0) n:=by
 rw[tally_split (offB n f k a) (fun x=>x % 2=0)]
 have e1:tally (fun x=>offB n f k a x∧¬ x % 2=0) n≤tally (fun x=>offB n f k a x∧x % 2=0) n:=
  tally_inj (· ^^^ 1) (fun x hx h=>⟨xor_one_lt hs.even hx,(off_mate hs).2 h.1,by have:=h.2;rw[xor_one];split <;> omega⟩) (fun x y _ _ _ _ e=>by rw[←xor_one_one x,e,xor_one_one])
 have e2:tally (fun x=>offB n f k a x∧x % 2=0) n≤tally (fun x=>offB n f k a x∧¬ x % 2=0) n:=
  tally_inj (· ^^^ 1) (fun x hx h=>⟨xor_one_lt hs.even hx,(off_mate hs).2 h.1,by have:=h.2;rw[xor_one];split <;> omega⟩) (fun x y _ _ _ _ e=>by rw[←xor_one_one x,e,xor_one_one])
 omega
theorem Rim.parts:tally (fun x=>offB n f k a x∧x % 2=0) n+1≤cls (conF n g) Any n:=by
 unfold cls
 rw[tally_split (fun x=>Any x∧Least (conF n g) x) (offB n f k a)]
 have hper:Per n (fun u v=>u<n∧v<n∧(offB n f k a u↔offB n f k a v)∧(offB n f k a u→u / 2=v / 2)):=
  ⟨fun hx=>⟨hx,hx,Iff.rfl,fun _=>rfl⟩,fun h=>⟨h.2.1,h.1,h.2.2.1.symm,fun q=>(h.2.2.2 (h.2.2.1.2 q)).symm⟩,fun h q=>⟨h.1,q.2.1,h.2.2.1.trans q.2.2.1,fun w=>(h.2.2.2 w).trans (q.2.2.2 (h.2.2.1.1 w))⟩,fun h=>h.1⟩
 have key:∀ {x y},conF n g x y→(offB n f k a x↔offB n f k a y)∧(offB n f k a x→x / 2=y / 2):=fun {x y} h=>by
  have:=h.2.2 _ hper (fun z hz=>?_) (fun z hz=>⟨hz,xor_one_lt hs.even hz,(off_mate hs).symm,fun _=>(xor_one_div z).symm⟩)
  ·exact this.2.2
  ·by_cases hz':offB n f k a z
   ·rw[hg.out z hz hz']
    exact hper.refl hz
   ·exact⟨hz,hg.pm.lt hz,⟨fun q=>absurd q hz',fun q=>absurd q (hg.stay z hz hz')⟩,fun q=>absurd q hz'⟩
 refine Nat.add_le_add (tally_mono fun x hx h=>⟨⟨trivial,fun y hy q=>?_⟩,h.1⟩) ?_
 ·obtain⟨k1,k2⟩:=key q
  have:=k2 (k1.2 h.1)
  have:=h.2
  omega
 ·obtain⟨l,_,h1,h2⟩:=(conF_per n g).least (a 0) (hr.lt 0 (Nat.zero_le _))
  exact tally_pos h1.1 ⟨⟨trivial,h2⟩,fun q=>hr.stay hs (Nat.zero_le _) ((key h1).1.1 q)⟩
theorem Rim.mate_out {x:Nat} (h:offB n f k a x):phiF g x=x ^^^ 1:=hg.out _ (xor_one_lt hs.even h.1) ((off_mate hs).2 h)
theorem Rim.faces:cls (cyc n (phiF g)) Any n≤tally (fun x=>offB n f k a x∧x % 2=0) n+tally (fun x=>Least (cyc n (phiF g)) x∧¬ offB n f k a x) n:=by
 unfold cls
 rw[tally_split (fun x=>Any x∧Least (cyc n (phiF g)) x) (offB n f k a)]
 refine Nat.add_le_add (tally_mono fun x hx h=>⟨h.2,?_⟩) (tally_mono fun x _ h=>⟨h.1.2,h.2⟩)
 refine Classical.byContradiction fun q=>?_
 have e:x ^^^ 1<x:=by rw[xor_one,if_neg q];omega
 refine h.1.2 _ e ?_
 have hphi:=hg.pm.phi hs.even
 have:=hphi.step hx
 rw[hr.mate_out hs hg h.2] at this
 exact hphi.per.symm this
theorem Rim.outer_one {i:Nat} (hi:i≤k):Go.Proofs.YtgphnkkdmlohlaaGreatDoor.cyc n (phiF g) (a i ^^^ 1) (a k ^^^ 1):=by
 have hphi:=hg.pm.phi hs.even
 induction i with
 | zero=>
  have:=hphi.step (xor_one_lt hs.even (hr.lt 0 hi))
  rw[hr.phi_out hs hg hi] at this
  exact this
 | succ i ih=>
  have:=hphi.step (xor_one_lt hs.even (hr.lt (i+1) hi))
  rw[hr.phi_out hs hg hi,show prI k (i+1)=i from by unfold prI;rw[if_neg (by omega)];omega] at this
  exact hphi.per.trans this (ih (by omega))
theorem Rim.faces_in:tally (fun x=>Least (cyc n (phiF g)) x∧¬ offB n f k a x) n≤tally (fun x=>Least (cyc n (phiF g)) x∧innerB n f k a x) n+1:=by
 have hphi:=hg.pm.phi hs.even
 rw[tally_split _ (outer k a),Nat.add_comm]
 refine Nat.add_le_add (tally_mono fun x hx h=>⟨h.1.1,hx,h.1.2,h.2⟩) (tally_one fun x y hx hy px py=>?_)
 obtain⟨i,hi,rfl⟩:=px.2
 obtain⟨j,hj,rfl⟩:=py.2
 exact hphi.per.least_one px.1.1 py.1.1 (hphi.per.trans (hr.outer_one hs hg hi) (hphi.per.symm (hr.outer_one hs hg hj)))
theorem Rim.stays:tally (chordB n f k a) n+2*(k+1)≤tally (fun x=>¬ offB n f k a x) n:=by
 rw[tally_split (fun x=>¬ offB n f k a x) (chordB n f k a)]
 refine Nat.add_le_add (tally_mono fun x hx h=>⟨h.1.2.1,h⟩) ?_
 have e:2*(k+1)=tally Any (2*(k+1)):=(tally_all fun _ _=>trivial).symm
 rw[e]
 refine tally_inj (fun i=>if i % 2=0 then a (i / 2) else a (i / 2) ^^^ 1) (fun i hi _=>?_) (fun i j hi hj _ _ e=>?_)
 ·have hi2:i / 2≤k:=by omega
  by_cases h:i % 2=0
  ·simp only[if_pos h]
   exact⟨hr.lt _ hi2,hr.stay hs hi2,fun q=>q.2 _ hi2 rfl⟩
  ·simp only[if_neg h]
   exact⟨xor_one_lt hs.even (hr.lt _ hi2),hr.stay' hs hi2,fun q=>q.1.2.2 ⟨_,hi2,rfl⟩⟩
 ·have hi2:i / 2≤k:=by omega
  have hj2:j / 2≤k:=by omega
  have ha:∀ {x y},x≤k→y≤k→a x=a y→x=y:=fun {x y} hx hy e=>hr.one x y hx hy (by rw[e];exact hs.pm.per.refl (hr.lt y hy))
  by_cases h:i % 2=0 <;> by_cases h':j % 2=0
  ·simp only[if_pos h,if_pos h'] at e
   have:=ha hi2 hj2 e
   omega
  ·simp only[if_pos h,if_neg h'] at e
   exact absurd ⟨_,hj2,e⟩ (hr.not_outer hs hi2)
  ·simp only[if_neg h,if_pos h'] at e
   exact absurd ⟨_,hi2,e.symm⟩ (hr.not_outer hs hj2)
  ·simp only[if_neg h,if_neg h'] at e
   have:=ha hi2 hj2 (by rw[←xor_one_one (a (i / 2)),e,xor_one_one])
   omega
variable (hno : ∀ i, 0 < i → i < k → ∃ x, cyc n f (a i) x ∧ onB n f k a (x ^^^ 1) ∧ x ≠ a i ∧ x ≠ a (i - 1) ^^^ 1)
include hno
theorem Rim.chords:2*tally (fun x=>Least (cyc n (phiF g)) x∧innerB n f k a x) n≤tally (chordB n f k a) n+1:=by
 have hphi:=hg.pm.phi hs.even
 classical
 have ex1:∀ r,innerB n f k a r→∃ c,Go.Proofs.YtgphnkkdmlohlaaGreatDoor.cyc n (phiF g) r c∧chordB n f k a c:=fun r hi=>by
  by_cases hk:Go.Proofs.YtgphnkkdmlohlaaGreatDoor.cyc n (phiF g) r (a k)
  ·obtain⟨c,c1,c2⟩:=hr.one_chord hs hg hno
   exact⟨c,hphi.per.trans hk c1,c2⟩
  ·exact (hr.two_chords hs hg hno hi (fun x hx e=>hk (e ▸ hx))).1
 let h1:Nat→Nat:=fun r=>if h:innerB n f k a r then Classical.choose (ex1 r h) else 0
 have s1:∀ r,innerB n f k a r→Go.Proofs.YtgphnkkdmlohlaaGreatDoor.cyc n (phiF g) r (h1 r)∧chordB n f k a (h1 r):=fun r h=>by
  have e:h1 r=Classical.choose (ex1 r h):=dif_pos h
  rw[e]
  exact Classical.choose_spec (ex1 r h)
 have ex2:∀ r,(innerB n f k a r∧¬ Go.Proofs.YtgphnkkdmlohlaaGreatDoor.cyc n (phiF g) r (a k))→∃ c,Go.Proofs.YtgphnkkdmlohlaaGreatDoor.cyc n (phiF g) r c∧chordB n f k a c∧c≠h1 r:=fun r hi=>
  (hr.two_chords hs hg hno hi.1 (fun x hx e=>hi.2 (e ▸ hx))).2 _ (s1 r hi.1).1 (s1 r hi.1).2
 let h2:Nat→Nat:=fun r=>if h:innerB n f k a r∧¬ Go.Proofs.YtgphnkkdmlohlaaGreatDoor.cyc n (phiF g) r (a k) then Classical.choose (ex2 r h) else 0
 have s2:∀ r,(innerB n f k a r∧¬ Go.Proofs.YtgphnkkdmlohlaaGreatDoor.cyc n (phiF g) r (a k))→Go.Proofs.YtgphnkkdmlohlaaGreatDoor.cyc n (phiF g) r (h2 r)∧chordB n f k a (h2 r)∧h2 r≠h1 r:=fun r h=>by
  have e:h2 r=Classical.choose (ex2 r h):=dif_pos h
  rw[e]
  exact Classical.choose_spec (ex2 r h)
 let IL:Nat→Prop:=fun x=>Least (Go.Proofs.YtgphnkkdmlohlaaGreatDoor.cyc n (phiF g)) x∧innerB n f k a x
 let Q:Nat→Prop:=fun x=>∃ r,r<n∧IL r∧x=h1 r
 have t1:tally IL n≤tally (fun x=>chordB n f k a x∧Q x) n:=by
  refine tally_inj h1 (fun r hr' h=>⟨(s1 r h.2).2.1.1,(s1 r h.2).2,r,hr',h,rfl⟩) (fun x y hx hy px py e=>?_)
  have k1:=(s1 x px.2).1
  rw[e] at k1
  exact hphi.per.least_one px.1 py.1 (hphi.per.trans k1 (hphi.per.symm (s1 y py.2).1))
 have t2:tally (fun x=>IL x∧¬ Go.Proofs.YtgphnkkdmlohlaaGreatDoor.cyc n (phiF g) x (a k)) n≤tally (fun x=>chordB n f k a x∧¬ Q x) n:=by
  refine tally_inj h2 (fun r hr' h=>?_) (fun x y hx hy px py e=>?_)
  ·have k1:=s2 r ⟨h.1.2,h.2⟩
   refine⟨k1.2.1.1.1,k1.2.1,?_⟩
   rintro⟨r',hr2,hil,e⟩
   have k2:=(s1 r' hil.2).1
   rw[←e] at k2
   have k3:=hphi.per.least_one h.1.1 hil.1 (hphi.per.trans k1.1 (hphi.per.symm k2))
   rw[←k3] at e
   exact k1.2.2 e
  ·have k1:=(s2 x ⟨px.1.2,px.2⟩).1
   rw[e] at k1
   exact hphi.per.least_one px.1.1 py.1.1 (hphi.per.trans k1 (hphi.per.symm (s2 y ⟨py.1.2,py.2⟩).1))
 have t3:tally (fun x=>IL x∧Go.Proofs.YtgphnkkdmlohlaaGreatDoor.cyc n (phiF g) x (a k)) n≤1:=tally_one fun x y hx hy px py=>
  hphi.per.least_one px.1.1 py.1.1 (hphi.per.trans px.2 (hphi.per.symm py.2))
 have t4:=tally_split IL (fun x=>Go.Proofs.YtgphnkkdmlohlaaGreatDoor.cyc n (phiF g) x (a k)) n
 have t5:=tally_split (chordB n f k a) Q n
 show 2*tally IL n≤_
 omega
end
theorem Rim.free {n:Nat} {f:Nat→Nat} {k:Nat} {a:Nat→Nat} (hs:Simp n f) (hr:Rim n f k a):
  ∃ i,0<i∧i<k∧∀ x,cyc n f (a i) x→onB n f k a (x ^^^ 1)→x=a i∨x=a (i-1) ^^^ 1:=by
 refine Classical.byContradiction fun hno=>?_
 have hno':∀ i,0<i→i<k→∃ x,cyc n f (a i) x∧onB n f k a (x ^^^ 1)∧x≠a i∧x≠a (i-1) ^^^ 1:=fun i h1 h2=>Classical.byContradiction fun q=>
  hno ⟨i,h1,h2,fun x c o=>Classical.byContradiction fun w=>q ⟨x,c,o,fun e=>w (Or.inl e),fun e=>w (Or.inr e)⟩⟩
 obtain⟨g,hg⟩:=hs.plan.out hs.pm hs.even (offB n f k a) (fun x h=>h.1)
 have h1:=hr.vert hs hg
 have h2:=hr.half hs hg
 have h3:=hr.parts hs hg
 have h4:=hr.faces hs hg
 have h5:=hr.faces_in hs hg
 have h6:=hr.stays hs hg
 have h7:=hr.chords hs hg hno'
 have h8:=hg.plan
 have h9:=tally_split Any (offB n f k a) n
 have e1:tally Any n=n:=tally_all fun _ _=>trivial
 have e2:tally (fun x=>Any x∧offB n f k a x) n=tally (offB n f k a) n:=tally_congr fun _ _=>⟨fun h=>h.2,fun h=>⟨trivial,h⟩⟩
 have e3:tally (fun x=>Any x∧¬ offB n f k a x) n=tally (fun x=>¬ offB n f k a x) n:=tally_congr fun _ _=>⟨fun h=>h.2,fun h=>⟨trivial,h⟩⟩
 have h10:=hs.even
 unfold PlanF at h8
 omega
end
section
set_option linter.unusedVariables false
structure Ord (n:Nat) (r:Nat→Nat→Prop) (N:List Int) (cnt:Nat→Nat):Prop where
 len:N.length=n
 rel:∀ x y,x<n→y<n→(nth N x=nth N y↔r x y)
 zero:cnt 0=0
 ord:∀ k,k<n→(0≤nth N k∧nth N k<cnt k∧cnt (k+1)=cnt k)∨(nth N k=cnt k∧cnt (k+1)=cnt k+1)
theorem Ord.mono {n:Nat} {r:Nat→Nat→Prop} {N:List Int} {cnt:Nat→Nat} (h:Ord n r N cnt) {k:Nat}:∀ {l:Nat},k≤l→l≤n→cnt k≤cnt l
 | 0,hk,_=>by rw[show k=0 by omega];exact Nat.le_refl _
 | l+1,hk,hl=>by
  by_cases e:k=l+1
  ·rw[e];exact Nat.le_refl _
  ·have:=h.mono (k:=k) (l:=l) (by omega) (by omega)
   rcases h.ord l (by omega) with ⟨_,_,e⟩|⟨_,e⟩ <;> omega
theorem Ord.bound {n:Nat} {r:Nat→Nat→Prop} {N:List Int} {cnt:Nat→Nat} (h:Ord n r N cnt) {k:Nat} (hk:k<n):0≤nth N k∧nth N k<cnt (k+1):=by
 rcases h.ord k hk with ⟨a,b,c⟩|⟨a,b⟩
 ·exact⟨a,by omega⟩
 ·rw[a];exact⟨by omega,by omega⟩
theorem Ord.cnt_le {n:Nat} {r:Nat→Nat→Prop} {N:List Int} {cnt:Nat→Nat} (h:Ord n r N cnt):∀ {k:Nat},k≤n→cnt k≤k
 | 0,_=>by rw[h.zero];exact Nat.le_refl _
 | k+1,hk=>by
  have:=h.cnt_le (k:=k) (by omega)
  rcases h.ord k (by omega) with ⟨_,_,e⟩|⟨_,e⟩ <;> omega
theorem Ord.has {n:Nat} {r:Nat→Nat→Prop} {N:List Int} {cnt:Nat→Nat} (h:Ord n r N cnt):∀ {k:Nat},k≤n→∀ v:Nat,v<cnt k→∃ j,j<k∧nth N j=v∧cnt j=v
 | 0,_,v,hv=>by rw[h.zero] at hv;omega
 | k+1,hk,v,hv=>by
  rcases h.ord k (by omega) with ⟨a,b,c⟩|⟨a,b⟩
  ·obtain⟨j,hj,e⟩:=h.has (k:=k) (by omega) v (by omega)
   exact⟨j,by omega,e⟩
  ·by_cases e:v<cnt k
   ·obtain⟨j,hj,e⟩:=h.has (k:=k) (by omega) v e
    exact⟨j,by omega,e⟩
   ·exact⟨k,by omega,by rw[a];congr 1;omega,by omega⟩
theorem Ord.least {n:Nat} {r:Nat→Nat→Prop} {N:List Int} {cnt:Nat→Nat} (h:Ord n r N cnt) {k:Nat} (hk:k<n):Least r k↔nth N k=cnt k:=by
 constructor
 ·intro hl
  rcases h.ord k hk with ⟨a,b,c⟩|⟨a,b⟩
  ·obtain⟨v,hv⟩:=Int.eq_ofNat_of_zero_le a
   obtain⟨j,hj,e,_⟩:=h.has (k:=k) (by omega) v (by omega)
   exact absurd ((h.rel j k (by omega) hk).1 (by rw[e,hv])) (hl j hj)
  ·exact a
 ·intro e y hy hr
  have h1:=(h.rel y k (by omega) hk).2 hr
  have h2:=(h.bound (k:=y) (by omega)).2
  have h3:=h.mono (k:=y+1) (l:=k) (by omega) (by omega)
  omega
theorem Ord.cnt_eq {n:Nat} {r:Nat→Nat→Prop} {N:List Int} {cnt:Nat→Nat} (h:Ord n r N cnt):∀ {k:Nat},k≤n→cnt k=tally (Least r) k
 | 0,_=>h.zero
 | k+1,hk=>by
  rw[tally_succ,←h.cnt_eq (k:=k) (by omega)]
  rcases h.ord k (by omega) with ⟨a,b,c⟩|⟨a,b⟩
  ·rw[ind_no (fun hl=>by have:=(h.least (k:=k) (by omega)).1 hl;omega),c,Nat.add_zero]
  ·rw[ind_yes ((h.least (k:=k) (by omega)).2 a),b]
theorem cyc_at {s:List Nat} (hs:IsPerm s) {x y:Nat}:cyc s.length (at' s) x y↔x<s.length∧y<s.length∧nth (namesL s) x=nth (namesL s) y:=by
 unfold cyc
 constructor
 ·rintro⟨hx,hy,j,e⟩
  refine⟨hx,hy,?_⟩
  rw[itf_at] at e
  rw[←e]
  exact ((namesGo_inv hs _ (Nat.le_refl _)).it hs hx j).symm
 ·rintro⟨hx,hy,e⟩
  refine⟨hx,hy,?_⟩
  have:y∈orbitL s x:=(names_orbit hs hx).2 ⟨hy,e.symm⟩
  obtain⟨j,e⟩:=(hs.mem_orbit hx).1 this
  exact⟨j,by rw[itf_at];exact e⟩
theorem namesL_ord {s:List Nat} (hs:IsPerm s):Ord s.length (cyc s.length (at' s)) (namesL s) (fun k=>(namesGo s k).2):=
 ⟨namesL_length s,fun x y hx hy=>by rw[cyc_at hs];exact⟨fun e=>⟨hx,hy,e⟩,fun h=>h.2.2⟩,rfl,fun k hk=>names_next hs hk⟩
def dpush (c:Int) (st:List Int × List Nat) (y:Nat):List Int × List Nat:=if nth st.1 y<0 then (st.1.set y c,y :: st.2) else st
def dgo (s:List Nat) (c:Int):Nat→List Int × List Nat→List Int
 | 0,st=>st.1
 | _+1,(N,[])=>N
 | g+1,(N,x :: r)=>dgo s c g (dpush c (dpush c (N,r) (at' s x)) (x ^^^ 1))
def partStep (s:List Nat) (st:List Int × Nat) (d:Nat):List Int × Nat:=
 if 0≤nth st.1 d then st else (dgo s st.2 (2*s.length+1) (st.1.set d st.2,[d]),st.2+1)
def partsGo (s:List Nat) (k:Nat):List Int × Nat:=(List.range k).foldl (partStep s) (List.replicate s.length (-1),0)
def partsL (s:List Nat):List Int:=(partsGo s s.length).1
def partsN (s:List Nat):Nat:=(partsGo s s.length).2
theorem partsGo_zero (s:List Nat):partsGo s 0=(List.replicate s.length (-1),0):=rfl
theorem partsGo_succ (s:List Nat) (k:Nat):partsGo s (k+1)=partStep s (partsGo s k) k:=by simp[partsGo,List.range_succ]
structure DInv (s:List Nat) (d c:Nat) (N0:List Int) (E:Nat→Prop) (N:List Int) (stk:List Nat) (g:Nat):Prop where
 len:N.length=s.length
 old:∀ x,x<s.length→0≤nth N0 x→nth N x=nth N0 x
 new:∀ x,x<s.length→nth N0 x<0→nth N x=-1∨nth N x=c
 clo:∀ x,x<s.length→nth N0 x<0→nth N x=c→x∉stk→¬ E x→nth N (at' s x)=c∧nth N (x ^^^ 1)=c
 wait:∀ x,x∈stk→x<s.length∧nth N0 x<0∧nth N x=c
 con:∀ x,x<s.length→nth N0 x<0→nth N x=c→Con s d x
 fuel:stk.length+2*tally (fun x=>nth N x<0) s.length≤g
theorem DInv.push {s:List Nat} {d c:Nat} {N0:List Int} {E:Nat→Prop} {N:List Int} {stk:List Nat} {g:Nat} (h:DInv s d c N0 E N stk g) {y:Nat} (hy:y<s.length) (h0:nth N0 y<0) (hc:Con s d y):
  DInv s d c N0 E (dpush c (N,stk) y).1 (dpush c (N,stk) y).2 g∧nth (dpush c (N,stk) y).1 y=c∧∀ x,x<s.length→nth N x=c→nth (dpush c (N,stk) y).1 x=c:=by
 unfold dpush
 have hyl:y<N.length:=by rw[h.len];exact hy
 by_cases hn:nth N y<0
 ·rw[if_pos (show nth (N,stk).1 y<0 from hn)]
  have hset:∀ x,nth (N.set y (c:Int)) x=if y=x then (c:Int) else nth N x:=fun x=>nth_set hyl
  refine⟨⟨by simp[h.len],fun x hx hx0=>?_,fun x hx hx0=>?_,fun x hx hx0 hxc hxs hxe=>?_,fun x hx=>?_,fun x hx hx0 hxc=>?_,?_⟩,by rw[hset,if_pos rfl],fun x hx hxc=>by rw[hset];split;rfl;exact hxc⟩
  ·show nth (N.set y (c:Int)) x=_
   rw[hset,if_neg (fun e=>by subst e;omega)]
   exact h.old x hx hx0
  ·show nth (N.set y (c:Int)) x=-1∨_
   rw[hset]
   split
   ·exact Or.inr rfl
   ·exact h.new x hx hx0
  ·have hxy:y≠x:=fun e=>hxs (by rw[e];exact List.mem_cons_self)
   have hxc:nth (N.set y (c:Int)) x=c:=hxc
   rw[hset,if_neg hxy] at hxc
   obtain⟨a,b⟩:=h.clo x hx hx0 hxc (fun hm=>hxs (List.mem_cons_of_mem _ hm)) hxe
   constructor
   ·show nth (N.set y (c:Int)) _=_
    rw[hset];split;rfl;exact a
   ·show nth (N.set y (c:Int)) _=_
    rw[hset];split;rfl;exact b
  ·rcases List.mem_cons.1 hx with e|hx
   ·subst e;exact⟨hy,h0,by show nth (N.set x (c:Int)) x=_;rw[hset,if_pos rfl]⟩
   ·obtain⟨a,b,e⟩:=h.wait x hx
    exact⟨a,b,by show nth (N.set y (c:Int)) x=_;rw[hset];split;rfl;exact e⟩
  ·by_cases e:y=x
   ·subst e;exact hc
   ·have hxc:nth (N.set y (c:Int)) x=c:=hxc
    rw[hset,if_neg e] at hxc
    exact h.con x hx hx0 hxc
  ·have hf:=h.fuel
   rw[tally_but hy hn] at hf
   have:tally (fun x=>nth (N.set y (c:Int)) x<0) s.length=tally (fun k=>nth N k<0∧k≠y) s.length:=tally_congr fun k hk=>by
    rw[hset]
    by_cases e:y=k
    ·rw[if_pos e];exact⟨fun h=>by omega,fun h=>absurd e.symm h.2⟩
    ·rw[if_neg e];exact⟨fun h=>⟨h,fun e'=>e e'.symm⟩,fun h=>h.1⟩
   show (y :: stk).length+2*tally (fun x=>nth (N.set y (c:Int)) x<0) s.length≤g
   rw[this,List.length_cons]
   omega
 ·rw[if_neg (show ¬ nth (N,stk).1 y<0 from hn)]
  refine⟨h,?_,fun _ _ h=>h⟩
  rcases h.new y hy h0 with e|e
  ·omega
  ·exact e
structure PInv (s:List Nat) (k:Nat) (N:List Int) (c:Nat):Prop where
 len:N.length=s.length
 val:∀ x,x<s.length→nth N x=-1∨(0≤nth N x∧nth N x<c)
 same:∀ x,x<s.length→nth N (at' s x)=nth N x
 mate:∀ x,x<s.length→nth N (x ^^^ 1)=nth N x
 told:∀ x,x<k→x<s.length→0≤nth N x
 con:∀ x y,x<s.length→y<s.length→0≤nth N x→nth N x=nth N y→Con s x y
theorem DInv.pop {s:List Nat} (hs:IsPerm s) (he:s.length % 2=0) {d c k:Nat} {N0:List Int} (h0:PInv s k N0 c) {N:List Int} {x:Nat} {r:List Nat} {g:Nat} (h:DInv s d c N0 (fun _=>False) N (x :: r) (g+1)):
  DInv s d c N0 (fun _=>False) (dpush c (dpush c (N,r) (at' s x)) (x ^^^ 1)).1 (dpush c (dpush c (N,r) (at' s x)) (x ^^^ 1)).2 g:=by
 obtain⟨hx,hx0,hxc⟩:=h.wait x List.mem_cons_self
 have hcx:=h.con x hx hx0 hxc
 have h1:DInv s d c N0 (fun z=>z=x) N r g:=⟨h.len,h.old,h.new,fun z hz hz0 hzc hzs hze=>h.clo z hz hz0 hzc (fun hm=>by
   rcases List.mem_cons.1 hm with e|hm
   ·exact hze e
   ·exact hzs hm) (fun h=>h),fun z hz=>h.wait z (List.mem_cons_of_mem _ hz),h.con,by have:=h.fuel;rw[List.length_cons] at this;omega⟩
 have hp:=Con.per hs
 obtain⟨h2,a2,k2⟩:=h1.push (hs.lt hx) (by rw[h0.same x hx];exact hx0) (hp.trans hcx (Con.step hs hx))
 obtain⟨h3,a3,k3⟩:=h2.push (xor_one_lt he hx) (by rw[h0.mate x hx];exact hx0) (hp.trans hcx (Con.mate hs he hx))
 have a2':=k3 _ (hs.lt hx) a2
 exact⟨h3.len,h3.old,h3.new,fun z hz hz0 hzc hzs _=>by
   by_cases e:z=x
   ·subst e;exact⟨a2',a3⟩
   ·exact h3.clo z hz hz0 hzc hzs e,h3.wait,h3.con,h3.fuel⟩
theorem dgo_inv {s:List Nat} (hs:IsPerm s) (he:s.length % 2=0) {d c k:Nat} {N0:List Int} (h0:PInv s k N0 c):∀ (g:Nat) (N:List Int) (stk:List Nat),DInv s d c N0 (fun _=>False) N stk g →
  ∃ g',DInv s d c N0 (fun _=>False) (dgo s c g (N,stk)) [] g'
 | 0,N,stk,h=>by
  have:=h.fuel
  have hnil:stk=[]:=List.length_eq_zero_iff.1 (by omega)
  subst hnil
  exact⟨0,h⟩
 | g+1,N,[],h=>⟨g+1,h⟩
 | g+1,N,x :: r,h=>by
  have:=dgo_inv hs he h0 g _ _ (DInv.pop hs he h0 h)
  exact this
theorem PInv.it {s:List Nat} (hs:IsPerm s) {p:Nat→Prop} (hp:∀ x,x<s.length→p x→p (at' s x)) {x:Nat} (hx:x<s.length) (h:p (at' s x)):p x:=by
 have key:∀ j,p (itf (at' s) j (at' s x)):=fun j=>by
  induction j with
  | zero=>exact h
  | succ j ih=>rw[itf_succ];exact hp _ (hs.pm.it (hs.lt hx) j) ih
 obtain⟨d,hd,e⟩:=hs.pm.back hx
 obtain⟨d',rfl⟩:∃ d',d=d'+1:=⟨d-1,by omega⟩
 have:=key d'
 rw[show itf (at' s) d' (at' s x)=itf (at' s) (d'+1) x from rfl,e] at this
 exact this
theorem PInv.first {s:List Nat} (hs:IsPerm s) {k c:Nat} {N:List Int} (h:PInv s k N c) (hk:k<s.length) (hn:¬ 0≤nth N k):
  DInv s k c N (fun _=>False) (N.set k (c:Int)) [k] (2*s.length+1):=by
 have hkl:k<N.length:=by rw[h.len];exact hk
 have hset:∀ x,nth (N.set k (c:Int)) x=if k=x then (c:Int) else nth N x:=fun x=>nth_set hkl
 have hk1:nth N k=-1:=by
  rcases h.val k hk with e|e
  ·exact e
  ·omega
 refine⟨by simp[h.len],fun x hx hx0=>by rw[hset,if_neg (fun e=>by subst e;omega)],fun x hx hx0=>?_,fun x hx hx0 hxc hxs _=>?_,fun x hx=>?_,fun x hx hx0 hxc=>?_,?_⟩
 ·rw[hset]
  split
  ·exact Or.inr rfl
  ·rcases h.val x hx with e|e
   ·exact Or.inl e
   ·omega
 ·have:k≠x:=fun e=>hxs (by rw[e];simp)
  rw[hset,if_neg this] at hxc
  omega
 ·simp only[List.mem_singleton] at hx
  subst hx
  exact⟨hk,by omega,by rw[hset,if_pos rfl]⟩
 ·by_cases e:k=x
  ·subst e;exact (Con.per hs).refl hk
  ·rw[hset,if_neg e] at hxc
   omega
 ·have:=tally_le (fun x=>nth (N.set k (c:Int)) x<0∧x≠k) s.length
  have h2:tally (fun x=>nth (N.set k (c:Int)) x<0) s.length≤s.length:=tally_le _ _
  have:[k].length=1:=rfl
  omega
theorem PInv.step {s:List Nat} (hs:IsPerm s) (he:s.length % 2=0) {k c:Nat} {N:List Int} (h:PInv s k N c) (hk:k<s.length):
  PInv s (k+1) (partStep s (N,c) k).1 (partStep s (N,c) k).2∧(∀ x,x<s.length→0≤nth N x→nth (partStep s (N,c) k).1 x=nth N x) ∧
  ((0≤nth N k∧nth N k<c∧(partStep s (N,c) k).2=c)∨(nth (partStep s (N,c) k).1 k=c∧(partStep s (N,c) k).2=c+1)):=by
 by_cases hold:0≤nth N k
 ·rw[partStep,if_pos (show 0≤nth (N,c).1 k from hold)]
  refine⟨⟨h.len,h.val,h.same,h.mate,fun x hx hx'=>?_,h.con⟩,fun _ _ _=>rfl,Or.inl ⟨hold,?_,rfl⟩⟩
  ·by_cases e:x=k
   ·subst e;exact hold
   ·exact h.told x (by omega) hx'
  ·rcases h.val k hk with e|e
   ·omega
   ·exact e.2
 ·rw[partStep,if_neg (show ¬ 0≤nth (N,c).1 k from hold)]
  have h1:=h.first hs hk hold
  obtain⟨g',h2⟩:=dgo_inv hs he h _ _ _ h1
  generalize hM:dgo s (c:Int) (2*s.length+1) (N.set k (c:Int),[k])=M at h2
  show PInv s (k+1) M (c+1)∧(∀ x,x<s.length→0≤nth N x→nth M x=nth N x)∧(_∨(nth M k=c∧c+1=c+1))
  have hk0:nth N k<0:=by omega
  have hval:∀ x,x<s.length→(0≤nth N x→nth N x<c):=fun x hx h0=>by
   rcases h.val x hx with e|e
   ·omega
   ·exact e.2
  have hclo:∀ x,x<s.length→nth N x<0→nth M x=c→nth M (at' s x)=c∧nth M (x ^^^ 1)=c:=fun x hx h0 hc=>h2.clo x hx h0 hc (by simp) (fun h=>h)
  have hcs:∀ x,x<s.length→nth N x<0→(nth M (at' s x)=c↔nth M x=c):=fun x hx h0=>by
   refine⟨fun hc=>?_,fun hc=>(hclo x hx h0 hc).1⟩
   have:=PInv.it hs (p:=fun z=>nth N z<0∧nth M z=c) (fun z hz hp=>⟨by rw[h.same z hz];exact hp.1,(hclo z hz hp.1 hp.2).1⟩) hx ⟨by rw[h.same x hx];exact h0,hc⟩
   exact this.2
  have hcm:∀ x,x<s.length→nth N x<0→(nth M (x ^^^ 1)=c↔nth M x=c):=fun x hx h0=>by
   refine⟨fun hc=>?_,fun hc=>(hclo x hx h0 hc).2⟩
   have:=(hclo (x ^^^ 1) (xor_one_lt he hx) (by rw[h.mate x hx];exact h0) hc).2
   rwa [xor_one_one] at this
  have hMk:nth M k=c:=by
   have key:∀ (g:Nat) (A:List Int) (stk:List Nat),nth A k=c→k<A.length→nth (dgo s (c:Int) g (A,stk)) k=c:=by
    intro g
    induction g with
    | zero=>intro A stk h _;exact h
    | succ g ih=>
     intro A stk h hl
     cases stk with
     | nil=>exact h
     | cons x r=>
      have hp:∀ (B:List Int × List Nat) (y:Nat),nth B.1 k=c→k<B.1.length→nth (dpush c B y).1 k=c∧k<(dpush c B y).1.length:=fun B y hb hl=>by
       unfold dpush
       split
       ·refine⟨?_,by simpa using hl⟩
        show nth (B.1.set y (c:Int)) k=c
        by_cases hy:y<B.1.length
        ·rw[nth_set hy];split;rfl;exact hb
        ·rw[List.set_eq_of_length_le (by omega)];exact hb
       ·exact⟨hb,hl⟩
      obtain⟨p1,p2⟩:=hp (A,r) (at' s x) h hl
      obtain⟨p3,p4⟩:=hp _ (x ^^^ 1) p1 p2
      exact ih _ _ p3 p4
   rw[←hM]
   exact key _ _ _ (by rw[nth_set (by rw[h.len];exact hk),if_pos rfl]) (by simp[h.len];exact hk)
  refine⟨⟨h2.len,fun x hx=>?_,fun x hx=>?_,fun x hx=>?_,fun x hx hx'=>?_,fun x y hx hy h0 e=>?_⟩,h2.old,Or.inr ⟨hMk,rfl⟩⟩
  ·by_cases h0:0≤nth N x
   ·rw[h2.old x hx h0]
    exact Or.inr ⟨h0,by have:=hval x hx h0;omega⟩
   ·rcases h2.new x hx (by omega) with e|e
    ·exact Or.inl e
    ·rw[e];exact Or.inr ⟨by omega,by omega⟩
  ·by_cases h0:0≤nth N x
   ·rw[h2.old x hx h0,h2.old _ (hs.lt hx) (by rw[h.same x hx];exact h0),h.same x hx]
   ·have hh:=hcs x hx (by omega)
    rcases h2.new x hx (by omega) with e|e
    ·rcases h2.new (at' s x) (hs.lt hx) (by rw[h.same x hx];omega) with e'|e'
     ·rw[e,e']
     ·have:=hh.1 e';omega
    ·rw[e];exact hh.2 e
  ·by_cases h0:0≤nth N x
   ·rw[h2.old x hx h0,h2.old _ (xor_one_lt he hx) (by rw[h.mate x hx];exact h0),h.mate x hx]
   ·have hh:=hcm x hx (by omega)
    rcases h2.new x hx (by omega) with e|e
    ·rcases h2.new (x ^^^ 1) (xor_one_lt he hx) (by rw[h.mate x hx];omega) with e'|e'
     ·rw[e,e']
     ·have:=hh.1 e';omega
    ·rw[e];exact hh.2 e
  ·by_cases e:x=k
   ·subst e;omega
   ·rw[h2.old x hx' (h.told x (by omega) hx')]
    exact h.told x (by omega) hx'
  ·by_cases h0x:0≤nth N x
   ·have ex:=h2.old x hx h0x
    have:=hval x hx h0x
    by_cases h0y:0≤nth N y
    ·rw[ex,h2.old y hy h0y] at e
     exact h.con x y hx hy h0x e
    ·rcases h2.new y hy (by omega) with e'|e' <;> omega
   ·rcases h2.new x hx (by omega) with ex|ex
    ·omega
    ·by_cases h0y:0≤nth N y
     ·have:=hval y hy h0y
      have:=h2.old y hy h0y
      omega
     ·have c1:=h2.con x hx (by omega) ex
      have c2:=h2.con y hy (by omega) (by omega)
      exact (Con.per hs).trans ((Con.per hs).symm c1) c2
theorem PInv.zero (s:List Nat) (he:s.length % 2=0) (hs:IsPerm s):PInv s 0 (List.replicate s.length (-1)) 0:=by
 have key:∀ x,x<s.length→nth (List.replicate s.length (-1)) x=-1:=fun x hx=>by simp[nth,hx]
 exact⟨by simp,fun x hx=>Or.inl (key x hx),fun x hx=>by rw[key x hx,key _ (hs.lt hx)],fun x hx=>by rw[key x hx,key _ (xor_one_lt he hx)],fun x hx _=>by omega,fun x y hx hy h0=>by rw[key x hx] at h0;omega⟩
theorem partsGo_inv {s:List Nat} (hs:IsPerm s) (he:s.length % 2=0):∀ (k:Nat),k≤s.length→PInv s k (partsGo s k).1 (partsGo s k).2
 | 0,_=>PInv.zero s he hs
 | k+1,hk=>by
  have:=(PInv.step hs he (partsGo_inv hs he k (by omega)) (by omega)).1
  rwa [show partStep s ((partsGo s k).1,(partsGo s k).2) k=partsGo s (k+1) from (partsGo_succ s k).symm] at this
theorem partsGo_keeps {s:List Nat} (hs:IsPerm s) (he:s.length % 2=0) {k x:Nat} (hx:x<s.length) (h0:0≤nth (partsGo s k).1 x):∀ j,k+j≤s.length→nth (partsGo s (k+j)).1 x=nth (partsGo s k).1 x
 | 0,_=>rfl
 | j+1,hj=>by
  have ih:=partsGo_keeps hs he hx h0 j (by omega)
  have:=(PInv.step hs he (partsGo_inv hs he (k+j) (by omega)) (by omega)).2.1 x hx (by rw[ih];exact h0)
  rw[show partStep s ((partsGo s (k+j)).1,(partsGo s (k+j)).2) (k+j)=partsGo s (k+(j+1)) from (partsGo_succ s (k+j)).symm] at this
  rw[this,ih]
theorem partsL_ord {s:List Nat} (hs:IsPerm s) (he:s.length % 2=0):Ord s.length (Con s) (partsL s) (fun k=>(partsGo s k).2):=by
 have hI:=partsGo_inv hs he s.length (Nat.le_refl _)
 refine⟨hI.len,fun x y hx hy=>⟨fun e=>hI.con x y hx hy (hI.told x hx hx) e,fun hc=>?_⟩,rfl,fun k hk=>?_⟩
 ·have:∀ a b,(a<s.length∧b<s.length∧nth (partsL s) a=nth (partsL s) b)→nth (partsL s) a=nth (partsL s) b:=fun _ _ h=>h.2.2
  exact this x y (Con.sub hs (r:=fun a b=>a<s.length∧b<s.length∧nth (partsL s) a=nth (partsL s) b) ⟨fun h=>⟨h,h,rfl⟩,fun h=>⟨h.2.1,h.1,h.2.2.symm⟩,fun h k=>⟨h.1,k.2.1,h.2.2.trans k.2.2⟩,fun h=>h.1⟩ (fun z hz=>⟨hz,hs.lt hz,(hI.same z hz).symm⟩) (fun z hz=>⟨hz,xor_one_lt he hz,(hI.mate z hz).symm⟩) hc)
 ·have hstep:=(PInv.step hs he (partsGo_inv hs he k (by omega)) hk)
  rw[show partStep s ((partsGo s k).1,(partsGo s k).2) k=partsGo s (k+1) from (partsGo_succ s k).symm] at hstep
  obtain⟨h1,h2,h3⟩:=hstep
  have hkk:=partsGo_keeps hs he hk (k:=k+1) (h1.told k (by omega) hk) (s.length-(k+1)) (by omega)
  rw[show k+1+(s.length-(k+1))=s.length by omega] at hkk
  show (0≤nth (partsGo s s.length).1 k∧nth (partsGo s s.length).1 k<((partsGo s k).2:Int)∧(partsGo s (k+1)).2=(partsGo s k).2)∨(nth (partsGo s s.length).1 k=((partsGo s k).2:Int)∧(partsGo s (k+1)).2=(partsGo s k).2+1)
  rw[hkk]
  rcases h3 with ⟨a,b,c⟩|⟨a,b⟩
  ·rw[h2 k hk a]
   exact Or.inl ⟨a,b,c⟩
  ·exact Or.inr ⟨a,b⟩
theorem partsL_length {s:List Nat} (hs:IsPerm s) (he:s.length % 2=0):(partsL s).length=s.length:=(partsL_ord hs he).len
end
section
set_option linter.unusedVariables false
theorem phi_ord {s:List Nat} (hs:IsPerm s) (he:s.length % 2=0):Ord s.length (cyc s.length (at' (phiL s))) (namesL (phiL s)) (fun k=>(namesGo (phiL s) k).2):=by
 have:=namesL_ord (phiL_perm hs he)
 rwa [phiL_length] at this
def leadB (t:List Nat) (d:Nat):Bool:=nth (namesL t) d == ((namesGo t d).2:Int)
theorem leadB_iff {t:List Nat} (ht:IsPerm t) {d:Nat} (hd:d<t.length):leadB t d=true↔Least (cyc t.length (at' t)) d:=by
 rw[(namesL_ord ht).least hd]
 unfold leadB
 exact beq_iff_eq
def vcnt (t:List Nat) (N:List Int) (k:Int):Nat→Nat
 | 0=>0
 | j+1=>vcnt t N k j+if nth N j=k∧leadB t j=true then 1 else 0
def ecnt (N:List Int) (k:Int):Nat→Nat
 | 0=>0
 | j+1=>ecnt N k j+if nth N j=k then j % 2 else 0
def dcnt (N:List Int) (k:Int):Nat→Nat
 | 0=>0
 | j+1=>dcnt N k j+if nth N j=k then 1 else 0
theorem vcnt_succ (t:List Nat) (N:List Int) (k:Int) (j:Nat):vcnt t N k (j+1)=vcnt t N k j+if nth N j=k∧leadB t j=true then 1 else 0:=rfl
theorem ecnt_succ (N:List Int) (k:Int) (j:Nat):ecnt N k (j+1)=ecnt N k j+if nth N j=k then j % 2 else 0:=rfl
theorem dcnt_succ (N:List Int) (k:Int) (j:Nat):dcnt N k (j+1)=dcnt N k j+if nth N j=k then 1 else 0:=rfl
theorem vcnt_tally {t:List Nat} (ht:IsPerm t) (N:List Int) (k:Int):∀ {j:Nat},j≤t.length→vcnt t N k j=tally (fun d=>nth N d=k∧Least (cyc t.length (at' t)) d) j
 | 0,_=>rfl
 | j+1,hj=>by
  rw[tally_succ,←vcnt_tally ht N k (j:=j) (by omega),vcnt_succ]
  have:=leadB_iff ht (d:=j) (by omega)
  by_cases h:nth N j=k∧leadB t j=true
  ·rw[if_pos h,ind_yes ⟨h.1,this.1 h.2⟩]
  ·rw[if_neg h,ind_no (fun h'=>h ⟨h'.1,this.2 h'.2⟩)]
theorem vcnt_le (t:List Nat) (N:List Int) (k:Int):∀ (j:Nat),vcnt t N k j≤j
 | 0=>Nat.le_refl _
 | j+1=>by have:=vcnt_le t N k j;unfold vcnt;split <;> omega
theorem ecnt_le (N:List Int) (k:Int):∀ (j:Nat),ecnt N k j≤j
 | 0=>Nat.le_refl _
 | j+1=>by have:=ecnt_le N k j;unfold ecnt;split <;> omega
theorem dcnt_le (N:List Int) (k:Int):∀ (j:Nat),dcnt N k j≤j
 | 0=>Nat.le_refl _
 | j+1=>by have:=dcnt_le N k j;unfold dcnt;split <;> omega
theorem edges_tally {s:List Nat} {N:List Int} (k:Int) (hm:∀ x,x<s.length→nth N (x ^^^ 1)=nth N x):∀ {e:Nat},2*e≤s.length →
  ecnt N k (2*e)=tally (fun e=>nth N (2*e)=k) e∧dcnt N k (2*e)=2*tally (fun e=>nth N (2*e)=k) e
 | 0,_=>⟨rfl,rfl⟩
 | e+1,he=>by
  obtain⟨h1,h2⟩:=edges_tally k hm (e:=e) (by omega)
  have h3:=hm (2*e) (by omega)
  rw[xor_even] at h3
  rw[show 2*(e+1)=2*e+1+1 by omega,tally_succ]
  unfold ecnt dcnt
  unfold ecnt dcnt
  rw[h1,h2,h3]
  by_cases h:nth N (2*e)=k
  ·rw[if_pos h,if_pos h,ind_yes h,if_pos h];omega
  ·rw[if_neg h,if_neg h,ind_no h,if_neg h];omega
def rootOf (N:List Int) (k:Int):Nat:=N.findIdx (fun x=>x == k)
theorem rootOf_eq {N:List Int} {k:Int} {j:Nat} (hj:j<N.length) (h:nth N j=k) (hn:∀ i,i<j→nth N i≠k):rootOf N k=j:=by
 unfold rootOf
 rw[List.findIdx_eq hj]
 refine⟨by simp[nth,hj] at h;simp[h],fun i hi=>?_⟩
 have:=hn i hi
 simp[nth,show i<N.length by omega] at this
 simpa using this
theorem Ord.first {n:Nat} {r:Nat→Nat→Prop} {N:List Int} {cnt:Nat→Nat} (h:Ord n r N cnt) {j:Nat} (hj:j<n) (e:nth N j=cnt j):∀ i,i<j→nth N i≠cnt j:=fun i hi=>by
 have h1:=(h.bound (k:=i) (by omega)).2
 have h2:=h.mono (k:=i+1) (l:=j) (by omega) (by omega)
 omega
structure PartR where
 root:Int
 v:Int
 e:Int
 b:Int
 g:Int
deriving DecidableEq
def partAt (s:List Nat) (N:List Int) (g:Int) (j k:Nat):PartR:=⟨(rootOf N (k:Int):Nat),(vcnt s N (k:Int) j:Nat),(ecnt N (k:Int) j:Nat),(vcnt (phiL s) N (k:Int) j:Nat),g⟩
def genOf (s:List Nat) (N:List Int) (k:Nat):Int:=(2-(vcnt s N (k:Int) s.length:Nat)+(ecnt N (k:Int) s.length:Nat)-(vcnt (phiL s) N (k:Int) s.length:Nat)) / 2
def partF (s:List Nat) (k:Nat):PartR:=partAt s (partsL s) (genOf s (partsL s) k) s.length k
def loneR:PartR:=⟨-1,1,0,1,0⟩
def genusTo (s:List Nat):Nat→Int
 | 0=>0
 | k+1=>genusTo s k+genOf s (partsL s) k
def genusL (s:List Nat):Int:=genusTo s (partsN s)
theorem partsL_mate {s:List Nat} (hs:IsPerm s) (he:s.length % 2=0) {x:Nat} (hx:x<s.length):nth (partsL s) (x ^^^ 1)=nth (partsL s) x:=
 ((partsL_ord hs he).rel _ _ (xor_one_lt he hx) hx).2 ((Con.per hs).symm (Con.mate hs he hx))
theorem partsL_step {s:List Nat} (hs:IsPerm s) (he:s.length % 2=0) {x:Nat} (hx:x<s.length):nth (partsL s) (at' s x)=nth (partsL s) x:=
 ((partsL_ord hs he).rel _ _ (hs.lt hx) hx).2 ((Con.per hs).symm (Con.step hs hx))
theorem partsL_closed {s:List Nat} (hs:IsPerm s) (he:s.length % 2=0) (k:Int):Closed s (fun x=>nth (partsL s) x=k):=
 ⟨fun x hx=>by show nth (partsL s) _=k↔nth (partsL s) x=k;rw[partsL_step hs he hx],fun x hx=>by show nth (partsL s) _=k↔nth (partsL s) x=k;rw[partsL_mate hs he hx]⟩
theorem part_euler {s:List Nat} (hs:IsPerm s) (he:s.length % 2=0) {k:Nat} (hk:k<partsN s):
  ∃ t,vcnt s (partsL s) (k:Int) s.length+vcnt (phiL s) (partsL s) (k:Int) s.length+2*t=ecnt (partsL s) (k:Int) s.length+2:=by
 have hP:=partsL_closed hs he (k:Int)
 obtain⟨t,h⟩:=euler_go hs he hP (k:=s.length / 2) (by omega)
 have hO:=partsL_ord hs he
 have h1:cls (st s (s.length / 2)) (fun x=>nth (partsL s) x=(k:Int)) s.length=1:=by
  obtain⟨j,hj,e1,e2⟩:=hO.has (Nat.le_refl _) k hk
  have hl:=(hO.least hj).2 (by show nth (partsL s) j=_;rw[e1,show (partsGo s j).2=k from e2])
  show tally (fun x=>nth (partsL s) x=(k:Int)∧Least (Con s) x) s.length=1
  rw[tally_but hj ⟨e1,hl⟩,tally_none (n:=s.length) (p:=fun x=>(nth (partsL s) x=(k:Int)∧Least (Con s) x)∧x≠j)]
  rintro x hx ⟨⟨a,b⟩,c⟩
  exact c ((Con.per hs).least_one b hl ((hO.rel x j hx hj).1 (by rw[a,e1])))
 have h2:=vcnt_tally hs (partsL s) (k:Int) (Nat.le_refl _)
 have h3:=vcnt_tally (phiL_perm hs he) (partsL s) (k:Int) (j:=s.length) (by rw[phiL_length];exact Nat.le_refl _)
 rw[phiL_length] at h3
 have h4:=(edges_tally (s:=s) (k:Int) (fun x hx=>partsL_mate hs he hx) (e:=s.length / 2) (by omega)).1
 rw[show 2*(s.length / 2)=s.length by omega] at h4
 have h5:cls (cyc s.length (fk s (s.length / 2))) (fun x=>nth (partsL s) x=(k:Int)) s.length=cls (cyc s.length (at' (phiL s))) (fun x=>nth (partsL s) x=(k:Int)) s.length:=
  cls_congr fun x y _ _=>cyc_congr (fk_pm hs (by omega)) fun z hz=>fk_all he hz
 rw[h5,h1] at h
 refine⟨t,?_⟩
 rw[h2,h3,h4]
 have h6:cls (cyc s.length (at' s)) (fun x=>nth (partsL s) x=(k:Int)) s.length=tally (fun d=>nth (partsL s) d=(k:Int)∧Least (cyc s.length (at' s)) d) s.length:=rfl
 have h7:cls (cyc s.length (at' (phiL s))) (fun x=>nth (partsL s) x=(k:Int)) s.length=tally (fun d=>nth (partsL s) d=(k:Int)∧Least (cyc s.length (at' (phiL s))) d) s.length:=rfl
 rw[h6,h7] at h
 omega
theorem genOf_euler {s:List Nat} (hs:IsPerm s) (he:s.length % 2=0) {k:Nat} (hk:k<partsN s):0≤genOf s (partsL s) k ∧
  ((vcnt s (partsL s) (k:Int) s.length:Nat):Int)-(ecnt (partsL s) (k:Int) s.length:Nat)+(vcnt (phiL s) (partsL s) (k:Int) s.length:Nat)=2-2*genOf s (partsL s) k:=by
 obtain⟨t,h⟩:=part_euler hs he hk
 unfold genOf
 omega
theorem partsN_le {s:List Nat} (hs:IsPerm s) (he:s.length % 2=0):partsN s≤s.length:=(partsL_ord hs he).cnt_le (Nat.le_refl _)
theorem partsL_lt {s:List Nat} (hs:IsPerm s) (he:s.length % 2=0) {x:Nat} (hx:x<s.length):0≤nth (partsL s) x∧nth (partsL s) x<partsN s:=by
 have h:=(partsL_ord hs he).bound hx
 have h2:=(partsL_ord hs he).mono (k:=x+1) (l:=s.length) (by omega) (Nat.le_refl _)
 have h2:(partsGo s (x+1)).2≤partsN s:=h2
 have h:0≤nth (partsL s) x∧nth (partsL s) x<((partsGo s (x+1)).2:Int):=h
 exact⟨h.1,by omega⟩
def sumN (f:Nat→Nat):Nat→Nat
 | 0=>0
 | k+1=>sumN f k+f k
theorem sumN_congr {f g:Nat→Nat}:∀ {C:Nat},(∀ k,k<C→f k=g k)→sumN f C=sumN g C
 | 0,_=>rfl
 | C+1,h=>by unfold sumN;rw[sumN_congr fun k hk=>h k (by omega),h C (by omega)]
theorem sumN_zero:∀ {C:Nat},sumN (fun _=>0) C=0
 | 0=>rfl
 | C+1=>by unfold sumN;rw[sumN_zero]
theorem sumN_step {f g:Nat→Nat} {y a:Nat}:∀ {C:Nat},(∀ k,k<C→g k=f k+if k=y then a else 0)→sumN g C=sumN f C+if y<C then a else 0
 | 0,_=>by simp[sumN]
 | C+1,h=>by
  unfold sumN
  rw[sumN_step (C:=C) fun k hk=>h k (by omega),h C (by omega)]
  by_cases e:C=y
  ·subst e;simp;omega
  ·by_cases h':y<C
   ·rw[if_pos h',if_neg e,if_pos (by omega)];omega
   ·rw[if_neg h',if_neg e,if_neg (by omega)];omega
theorem sum_vcnt {t:List Nat} (ht:IsPerm t) {N:List Int} {C:Nat} (hN:∀ x,x<t.length→0≤nth N x∧nth N x<C):∀ {j:Nat},j≤t.length→sumN (fun k=>vcnt t N (k:Int) j) C=(namesGo t j).2
 | 0,_=>by rw[show (fun k:Nat=>vcnt t N (k:Int) 0)=fun _=>0 from rfl,sumN_zero];rfl
 | j+1,hj=>by
  obtain⟨y,hy⟩:=Int.eq_ofNat_of_zero_le (hN j (by omega)).1
  have hyC:=(hN j (by omega)).2
  have hs:sumN (fun k=>vcnt t N (k:Int) (j+1)) C=sumN (fun k=>vcnt t N (k:Int) j) C+if y<C then (if leadB t j=true then 1 else 0) else 0:=sumN_step fun k _=>by
   show vcnt t N (k:Int) j+(if nth N j=(k:Int)∧leadB t j=true then 1 else 0)=_
   congr 1
   by_cases e:k=y
   ·subst e;simp[hy]
   ·have:¬ nth N j=(k:Int):=by rw[hy];omega
    simp[this,e]
  rw[hs,sum_vcnt ht hN (j:=j) (by omega),if_pos (by omega)]
  unfold leadB
  rcases names_next ht (k:=j) (by omega) with ⟨a,b,c⟩|⟨a,b⟩
  ·rw[c,if_neg];rfl
   rw[beq_iff_eq];omega
  ·rw[b,if_pos]
   rw[beq_iff_eq];exact a
theorem sum_ecnt {n:Nat} {N:List Int} {C:Nat} (hN:∀ x,x<n→0≤nth N x∧nth N x<C):∀ {j:Nat},j≤n→sumN (fun k=>ecnt N (k:Int) j) C=j / 2
 | 0,_=>by rw[show (fun k:Nat=>ecnt N (k:Int) 0)=fun _=>0 from rfl,sumN_zero]
 | j+1,hj=>by
  obtain⟨y,hy⟩:=Int.eq_ofNat_of_zero_le (hN j (by omega)).1
  have hyC:=(hN j (by omega)).2
  have hs:sumN (fun k=>ecnt N (k:Int) (j+1)) C=sumN (fun k=>ecnt N (k:Int) j) C+if y<C then j % 2 else 0:=sumN_step fun k _=>by
   show ecnt N (k:Int) j+(if nth N j=(k:Int) then j % 2 else 0)=_
   congr 1
   by_cases e:k=y
   ·subst e;simp[hy]
   ·have:¬ nth N j=(k:Int):=by rw[hy];omega
    simp[this,e]
  rw[hs,sum_ecnt hN (j:=j) (by omega),if_pos (by omega)]
  omega
def loopB (s:List Nat) (e:Nat):Bool:=nth (namesL s) (2*e) == nth (namesL s) (2*e+1)
def loopsTo (s:List Nat):Nat→Nat
 | 0=>0
 | e+1=>loopsTo s e+if loopB s e=true then 1 else 0
def pairB (s:List Nat) (e f:Nat):Bool:=
 (nth (namesL s) (2*f) == nth (namesL s) (2*e) && nth (namesL s) (2*f+1) == nth (namesL s) (2*e+1)) || (nth (namesL s) (2*f) == nth (namesL s) (2*e+1) && nth (namesL s) (2*f+1) == nth (namesL s) (2*e))
def dblB (s:List Nat) (e:Nat):Bool:=!loopB s e && (List.range e).any fun f=>pairB s e f
def dblsTo (s:List Nat):Nat→Nat
 | 0=>0
 | e+1=>dblsTo s e+if dblB s e=true then 1 else 0
def loopsL (s:List Nat):Nat:=loopsTo s (s.length / 2)
def dblsL (s:List Nat):Nat:=dblsTo s (s.length / 2)
theorem loopsTo_le (s:List Nat):∀ e,loopsTo s e≤e
 | 0=>Nat.le_refl _
 | e+1=>by have:=loopsTo_le s e;unfold loopsTo;split <;> omega
theorem dblsTo_le (s:List Nat):∀ e,dblsTo s e≤e
 | 0=>Nat.le_refl _
 | e+1=>by have:=dblsTo_le s e;unfold dblsTo;split <;> omega
end
section
set_option linter.unusedVariables false
def sumL:List Nat→Nat
 | []=>0
 | x :: l=>x+sumL l
theorem sumL_set:∀ {L:List Nat} {i y:Nat},i<L.length→sumL (L.set i y)+at' L i=sumL L+y
 | x :: l,0,y,_=>by simp[sumL,at'];omega
 | x :: l,i+1,y,h=>by
  have:=sumL_set (L:=l) (i:=i) (y:=y) (by simpa using h)
  simp[sumL,at'] at this ⊢
  omega
structure LInv (s:List Nat) (L:List Nat):Prop where
 len:L.length=s.length
 le:∀ d,d<s.length→at' L d≤d
 con:∀ d,d<s.length→Con s (at' L d) d
theorem LInv.start {s:List Nat} (hs:IsPerm s):LInv s (List.range s.length):=by
 have key:∀ d,d<s.length→at' (List.range s.length) d=d:=fun d hd=>by simp[at',hd]
 exact⟨by simp,fun d hd=>by rw[key d hd];exact Nat.le_refl _,fun d hd=>by rw[key d hd];exact (Con.per hs).refl hd⟩
theorem LInv.sink {s:List Nat} (hs:IsPerm s) {L:List Nat} (h:LInv s L) {d x:Nat} (hd:d<s.length) (hx:x<s.length) (hc:Con s x d) (hlt:at' L x<at' L d):LInv s (L.set d (at' L x))∧sumL (L.set d (at' L x))+1≤sumL L:=by
 have hl:d<L.length:=by rw[h.len];exact hd
 refine⟨⟨by rw[List.length_set];exact h.len,fun e he=>?_,fun e he=>?_⟩,?_⟩
 ·rw[at'_set hl]
  split
  ·rename_i e';subst e';have:=h.le d hd;omega
  ·exact h.le e he
 ·rw[at'_set hl]
  split
  ·rename_i e';subst e';exact (Con.per hs).trans (h.con x hx) hc
  ·exact h.con e he
 ·have:=sumL_set (L:=L) (y:=at' L x) hl
  omega
def LClosed (s:List Nat) (L:List Nat):Prop:=∀ d,d<s.length→at' L (at' s d)=at' L d∧at' L (d ^^^ 1)=at' L d
theorem LInv.const {s:List Nat} (hs:IsPerm s) (he:s.length % 2=0) {L:List Nat} (h:LInv s L) (hc:LClosed s L) {x y:Nat} (hxy:Con s x y):at' L x=at' L y:=by
 have:∀ x y,(x<s.length∧y<s.length∧at' L x=at' L y)→at' L x=at' L y:=fun _ _ h=>h.2.2
 exact this x y (Con.sub hs (r:=fun x y=>x<s.length∧y<s.length∧at' L x=at' L y) ⟨fun hx=>⟨hx,hx,rfl⟩,fun h=>⟨h.2.1,h.1,h.2.2.symm⟩,fun h k=>⟨h.1,k.2.1,h.2.2.trans k.2.2⟩,fun h=>h.1⟩
  (fun z hz=>⟨hz,hs.lt hz,((hc z hz).1).symm⟩) (fun z hz=>⟨hz,xor_one_lt he hz,((hc z hz).2).symm⟩) hxy)
theorem LInv.last {s:List Nat} (hs:IsPerm s) (he:s.length % 2=0) {L:List Nat} (h:LInv s L) (hc:LClosed s L) {d:Nat} (hd:d<s.length):
  (at' L d=d∧nth (partsL s) d=((partsGo s d).2:Int)∧(partsGo s (d+1)).2=(partsGo s d).2+1) ∨
  (at' L d<d∧nth (partsL s) d=nth (partsL s) (at' L d)∧(partsGo s (d+1)).2=(partsGo s d).2):=by
 have hO:=partsL_ord hs he
 have hle:=h.le d hd
 by_cases e:at' L d=d
 ·left
  have hl:Least (Con s) d:=fun y hy hr=>by
   have h1:=h.const hs he hc hr
   have h2:=h.le y (by omega)
   omega
  have h1:=(hO.least hd).1 hl
  have h1:nth (partsL s) d=((partsGo s d).2:Int):=h1
  rcases hO.ord d hd with ⟨_,b,_⟩|⟨_,b⟩
  ·have b:nth (partsL s) d<((partsGo s d).2:Int):=b
   omega
  ·exact⟨e,h1,b⟩
 ·right
  have hlt:at' L d<d:=by omega
  have hr:=h.con d hd
  refine⟨hlt,((hO.rel _ _ (by omega) hd).2 hr).symm,?_⟩
  rcases hO.ord d hd with ⟨_,_,b⟩|⟨a,_⟩
  ·exact b
  ·exact absurd hr ((hO.least hd).2 a _ hlt)
end
section
set_option linter.unusedVariables false
def vtx (s:List Nat) (x:Nat):Nat:=(nth (namesL s) x).toNat
theorem vtx_eq {s:List Nat} (hs:IsPerm s) {x:Nat} (hx:x<s.length):nth (namesL s) x=(vtx s x:Int):=by
 unfold vtx
 have:=(names_lt hs hx).1
 omega
theorem vtx_lt {s:List Nat} (hs:IsPerm s) {x:Nat} (hx:x<s.length):vtx s x<(sizesL s).length:=by
 have h1:=vtx_eq hs hx
 have h2:=(names_lt hs hx).2
 omega
def getB (l:List Bool) (i:Nat):Bool:=l.getD i false
structure WSt where
 d:Nat
 ed:List Int
 mt:List Bool
def wkind (s:List Nat) (st:WSt):Nat:=
 if nth st.ed (st.d / 2)=0 then (if getB st.mt (vtx s (st.d ^^^ 1))=true then 2 else 0) else if nth st.ed (st.d / 2)=1 then 1 else 3
def wed (s:List Nat) (st:WSt):List Int:=if nth st.ed (st.d / 2)=0 then st.ed.set (st.d / 2) ((wkind s st:Int)+1) else st.ed
def wmt (s:List Nat) (st:WSt):List Bool:=if wkind s st=0 then st.mt.set (vtx s (st.d ^^^ 1)) true else st.mt
def wdart (s:List Nat) (st:WSt):Nat:=at' s (if wkind s st<2 then st.d ^^^ 1 else st.d)
def wnext (s:List Nat) (st:WSt):WSt:=⟨wdart s st,wed s st,wmt s st⟩
def wst (s:List Nat) (V root:Nat):Nat→WSt
 | 0=>⟨root,List.replicate (s.length / 2) 0,(List.replicate V false).set (vtx s root) true⟩
 | i+1=>wnext s (wst s V root i)
def wd (s:List Nat) (V root i:Nat):Nat:=(wst s V root i).d
section
variable {s : List Nat} (hs : IsPerm s) (he : s.length % 2 = 0) {V root : Nat} (hr : root < s.length) (hV : (sizesL s).length ≤ V)
include hs he hr hV
end
end
end Go.Proofs.YtgphnkkdmlohlaaGreatDoor
