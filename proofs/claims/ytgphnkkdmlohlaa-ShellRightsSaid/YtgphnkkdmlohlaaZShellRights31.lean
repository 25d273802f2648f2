/- Of a border of a planar map, simple, one at least of those that aren't its two ends is joined with no other one of the border but its two neighbours: the count. -/
import Derived.Test.YtgphnkkdmlohlaaZShellRights14
namespace Go.Proofs.Ytgphnkkdmlohlaa
set_option linter.unusedVariables false
set_option linter.unusedSectionVars false
theorem tally_one {p:Nat→Prop} {n:Nat} (h:∀ x y,x<n→y<n→p x→p y→x=y):tally p n≤1:=by
 have:=tally_inj (fun _=>0) (p:=p) (m:=1) (n:=n) (q:=Any) (fun _ _ _=>⟨by omega,trivial⟩) (fun x y hx hy px py _=>h x y hx hy px py)
 exact Nat.le_trans this (tally_le _ _)
section
variable {n : Nat} {f : Nat → Nat} {k : Nat} {a : Nat → Nat}
variable (hs : Simp n f) (hr : Rim n f k a)
include hs hr
variable {g : Nat → Nat} (hg : PullF n f (offB n f k a) g)
include hg
theorem Rim.vert:cls (cyc n g) Any n≤tally (offB n f k a) n+(k+1):=by
 unfold cls
 rw[tally_split _ (offB n f k a)]
 refine Nat.add_le_add (tally_mono fun x _ h=>h.2) ?_
 classical
 have hidx:∀ x,x<n→¬ offB n f k a x→∃ i,i≤k∧Go.Proofs.Ytgphnkkdmlohlaa.cyc n f (a i) x:=fun x hx h=>(on_of hx h).1
 refine Nat.le_trans (tally_inj (fun x=>if h:x<n∧¬ offB n f k a x then Classical.choose (hidx x h.1 h.2) else 0) (q:=Any) (m:=k+1) (fun x hx h=>⟨?_,trivial⟩) (fun x y hx hy px py e=>?_)) (tally_le _ _)
 ·have hh:x<n∧¬ offB n f k a x:=⟨hx,h.2⟩
  simp only[dif_pos hh]
  have:=(Classical.choose_spec (hidx x hh.1 hh.2)).1
  omega
 ·have hh:x<n∧¬ offB n f k a x:=⟨hx,px.2⟩
  have hh':y<n∧¬ offB n f k a y:=⟨hy,py.2⟩
  simp only[dif_pos hh,dif_pos hh'] at e
  have k1:=(Classical.choose_spec (hidx x hh.1 hh.2)).2
  have k2:=(Classical.choose_spec (hidx y hh'.1 hh'.2)).2
  rw[←e] at k2
  have k3:=hg.cyc hs.pm px.2 py.2 (hs.pm.per.trans (hs.pm.per.symm k1) k2)
  exact hg.pm.per.least_one px.1.2 py.1.2 k3
theorem Rim.half:tally (offB n f k a) n=2*tally (fun x=>offB n f k a x∧x % 2=0) n:=by
 rw[tally_split (offB n f k a) (fun x=>x % 2=0)]
 have e1:tally (fun x=>offB n f k a x∧¬ x % 2=0) n≤tally (fun x=>offB n f k a x∧x % 2=0) n:=
  tally_inj (· ^^^ 1) (fun x hx h=>⟨xor_one_lt hs.even hx,(off_mate hs).2 h.1,by have:=h.2;rw[xor_one];split <;> omega⟩) (fun x y _ _ _ _ e=>by rw[←xor_one_one x,e,xor_one_one])
 have e2:tally (fun x=>offB n f k a x∧x % 2=0) n≤tally (fun x=>offB n f k a x∧¬ x % 2=0) n:=
  tally_inj (· ^^^ 1) (fun x hx h=>⟨xor_one_lt hs.even hx,(off_mate hs).2 h.1,by have:=h.2;rw[xor_one];split <;> omega⟩) (fun x y _ _ _ _ e=>by rw[←xor_one_one x,e,xor_one_one])
 omega
theorem Rim.parts:tally (fun x=>offB n f k a x∧x % 2=0) n+1≤cls (conF n g) Any n:=by
 unfold cls
 rw[tally_split (fun x=>Any x∧Least (conF n g) x) (offB n f k a)]
 have hper:Per n (fun u v=>u<n∧v<n∧(offB n f k a u↔offB n f k a v)∧(offB n f k a u→u / 2=v / 2)):=
  ⟨fun hx=>⟨hx,hx,Iff.rfl,fun _=>rfl⟩,fun h=>⟨h.2.1,h.1,h.2.2.1.symm,fun q=>(h.2.2.2 (h.2.2.1.2 q)).symm⟩,fun h q=>⟨h.1,q.2.1,h.2.2.1.trans q.2.2.1,fun w=>(h.2.2.2 w).trans (q.2.2.2 (h.2.2.1.1 w))⟩,fun h=>h.1⟩
 have key:∀ {x y},conF n g x y→(offB n f k a x↔offB n f k a y)∧(offB n f k a x→x / 2=y / 2):=fun {x y} h=>by
  have:=h.2.2 _ hper (fun z hz=>?_) (fun z hz=>⟨hz,xor_one_lt hs.even hz,(off_mate hs).symm,fun _=>(xor_one_div z).symm⟩)
  ·exact this.2.2
  ·by_cases hz':offB n f k a z
   ·rw[hg.out z hz hz']
    exact hper.refl hz
   ·exact⟨hz,hg.pm.lt hz,⟨fun q=>absurd q hz',fun q=>absurd q (hg.stay z hz hz')⟩,fun q=>absurd q hz'⟩
 refine Nat.add_le_add (tally_mono fun x hx h=>⟨⟨trivial,fun y hy q=>?_⟩,h.1⟩) ?_
 ·obtain⟨k1,k2⟩:=key q
  have:=k2 (k1.2 h.1)
  have:=h.2
  omega
 ·obtain⟨l,_,h1,h2⟩:=(conF_per n g).least (a 0) (hr.lt 0 (Nat.zero_le _))
  exact tally_pos h1.1 ⟨⟨trivial,h2⟩,fun q=>hr.stay hs (Nat.zero_le _) ((key h1).1.1 q)⟩
theorem Rim.mate_out {x:Nat} (h:offB n f k a x):phiF g x=x ^^^ 1:=hg.out _ (xor_one_lt hs.even h.1) ((off_mate hs).2 h)
theorem Rim.faces:cls (cyc n (phiF g)) Any n≤tally (fun x=>offB n f k a x∧x % 2=0) n+tally (fun x=>Least (cyc n (phiF g)) x∧¬ offB n f k a x) n:=by
 unfold cls
 rw[tally_split (fun x=>Any x∧Least (cyc n (phiF g)) x) (offB n f k a)]
 refine Nat.add_le_add (tally_mono fun x hx h=>⟨h.2,?_⟩) (tally_mono fun x _ h=>⟨h.1.2,h.2⟩)
 refine Classical.byContradiction fun q=>?_
 have e:x ^^^ 1<x:=by rw[xor_one,if_neg q];omega
 refine h.1.2 _ e ?_
 have hphi:=hg.pm.phi hs.even
 have:=hphi.step hx
 rw[hr.mate_out hs hg h.2] at this
 exact hphi.per.symm this
theorem Rim.outer_one {i:Nat} (hi:i≤k):Go.Proofs.Ytgphnkkdmlohlaa.cyc n (phiF g) (a i ^^^ 1) (a k ^^^ 1):=by
 have hphi:=hg.pm.phi hs.even
 induction i with
 | zero=>
  have:=hphi.step (xor_one_lt hs.even (hr.lt 0 hi))
  rw[hr.phi_out hs hg hi] at this
  exact this
 | succ i ih=>
  have:=hphi.step (xor_one_lt hs.even (hr.lt (i+1) hi))
  rw[hr.phi_out hs hg hi,show prI k (i+1)=i from by unfold prI;rw[if_neg (by omega)];omega] at this
  exact hphi.per.trans this (ih (by omega))
theorem Rim.faces_in:tally (fun x=>Least (cyc n (phiF g)) x∧¬ offB n f k a x) n≤tally (fun x=>Least (cyc n (phiF g)) x∧innerB n f k a x) n+1:=by
 have hphi:=hg.pm.phi hs.even
 rw[tally_split _ (outer k a),Nat.add_comm]
 refine Nat.add_le_add (tally_mono fun x hx h=>⟨h.1.1,hx,h.1.2,h.2⟩) (tally_one fun x y hx hy px py=>?_)
 obtain⟨i,hi,rfl⟩:=px.2
 obtain⟨j,hj,rfl⟩:=py.2
 exact hphi.per.least_one px.1.1 py.1.1 (hphi.per.trans (hr.outer_one hs hg hi) (hphi.per.symm (hr.outer_one hs hg hj)))
theorem Rim.stays:tally (chordB n f k a) n+2*(k+1)≤tally (fun x=>¬ offB n f k a x) n:=by
 rw[tally_split (fun x=>¬ offB n f k a x) (chordB n f k a)]
 refine Nat.add_le_add (tally_mono fun x hx h=>⟨h.1.2.1,h⟩) ?_
 have e:2*(k+1)=tally Any (2*(k+1)):=(tally_all fun _ _=>trivial).symm
 rw[e]
 refine tally_inj (fun i=>if i % 2=0 then a (i / 2) else a (i / 2) ^^^ 1) (fun i hi _=>?_) (fun i j hi hj _ _ e=>?_)
 ·have hi2:i / 2≤k:=by omega
  by_cases h:i % 2=0
  ·simp only[if_pos h]
   exact⟨hr.lt _ hi2,hr.stay hs hi2,fun q=>q.2 _ hi2 rfl⟩
  ·simp only[if_neg h]
   exact⟨xor_one_lt hs.even (hr.lt _ hi2),hr.stay' hs hi2,fun q=>q.1.2.2 ⟨_,hi2,rfl⟩⟩
 ·have hi2:i / 2≤k:=by omega
  have hj2:j / 2≤k:=by omega
  have ha:∀ {x y},x≤k→y≤k→a x=a y→x=y:=fun {x y} hx hy e=>hr.one x y hx hy (by rw[e];exact hs.pm.per.refl (hr.lt y hy))
  by_cases h:i % 2=0 <;> by_cases h':j % 2=0
  ·simp only[if_pos h,if_pos h'] at e
   have:=ha hi2 hj2 e
   omega
  ·simp only[if_pos h,if_neg h'] at e
   exact absurd ⟨_,hj2,e⟩ (hr.not_outer hs hi2)
  ·simp only[if_neg h,if_pos h'] at e
   exact absurd ⟨_,hi2,e.symm⟩ (hr.not_outer hs hj2)
  ·simp only[if_neg h,if_neg h'] at e
   have:=ha hi2 hj2 (by rw[←xor_one_one (a (i / 2)),e,xor_one_one])
   omega
variable (hno : ∀ i, 0 < i → i < k → ∃ x, cyc n f (a i) x ∧ onB n f k a (x ^^^ 1) ∧ x ≠ a i ∧ x ≠ a (i - 1) ^^^ 1)
include hno
theorem Rim.chords:2*tally (fun x=>Least (cyc n (phiF g)) x∧innerB n f k a x) n≤tally (chordB n f k a) n+1:=by
 have hphi:=hg.pm.phi hs.even
 classical
 have ex1:∀ r,innerB n f k a r→∃ c,Go.Proofs.Ytgphnkkdmlohlaa.cyc n (phiF g) r c∧chordB n f k a c:=fun r hi=>by
  by_cases hk:Go.Proofs.Ytgphnkkdmlohlaa.cyc n (phiF g) r (a k)
  ·obtain⟨c,c1,c2⟩:=hr.one_chord hs hg hno
   exact⟨c,hphi.per.trans hk c1,c2⟩
  ·exact (hr.two_chords hs hg hno hi (fun x hx e=>hk (e ▸ hx))).1
 let h1:Nat→Nat:=fun r=>if h:innerB n f k a r then Classical.choose (ex1 r h) else 0
 have s1:∀ r,innerB n f k a r→Go.Proofs.Ytgphnkkdmlohlaa.cyc n (phiF g) r (h1 r)∧chordB n f k a (h1 r):=fun r h=>by
  have e:h1 r=Classical.choose (ex1 r h):=dif_pos h
  rw[e]
  exact Classical.choose_spec (ex1 r h)
 have ex2:∀ r,(innerB n f k a r∧¬ Go.Proofs.Ytgphnkkdmlohlaa.cyc n (phiF g) r (a k))→∃ c,Go.Proofs.Ytgphnkkdmlohlaa.cyc n (phiF g) r c∧chordB n f k a c∧c≠h1 r:=fun r hi=>
  (hr.two_chords hs hg hno hi.1 (fun x hx e=>hi.2 (e ▸ hx))).2 _ (s1 r hi.1).1 (s1 r hi.1).2
 let h2:Nat→Nat:=fun r=>if h:innerB n f k a r∧¬ Go.Proofs.Ytgphnkkdmlohlaa.cyc n (phiF g) r (a k) then Classical.choose (ex2 r h) else 0
 have s2:∀ r,(innerB n f k a r∧¬ Go.Proofs.Ytgphnkkdmlohlaa.cyc n (phiF g) r (a k))→Go.Proofs.Ytgphnkkdmlohlaa.cyc n (phiF g) r (h2 r)∧chordB n f k a (h2 r)∧h2 r≠h1 r:=fun r h=>by
  have e:h2 r=Classical.choose (ex2 r h):=dif_pos h
  rw[e]
  exact Classical.choose_spec (ex2 r h)
 let IL:Nat→Prop:=fun x=>Least (Go.Proofs.Ytgphnkkdmlohlaa.cyc n (phiF g)) x∧innerB n f k a x
 let Q:Nat→Prop:=fun x=>∃ r,r<n∧IL r∧x=h1 r
 have t1:tally IL n≤tally (fun x=>chordB n f k a x∧Q x) n:=by
  refine tally_inj h1 (fun r hr' h=>⟨(s1 r h.2).2.1.1,(s1 r h.2).2,r,hr',h,rfl⟩) (fun x y hx hy px py e=>?_)
  have k1:=(s1 x px.2).1
  rw[e] at k1
  exact hphi.per.least_one px.1 py.1 (hphi.per.trans k1 (hphi.per.symm (s1 y py.2).1))
 have t2:tally (fun x=>IL x∧¬ Go.Proofs.Ytgphnkkdmlohlaa.cyc n (phiF g) x (a k)) n≤tally (fun x=>chordB n f k a x∧¬ Q x) n:=by
  refine tally_inj h2 (fun r hr' h=>?_) (fun x y hx hy px py e=>?_)
  ·have k1:=s2 r ⟨h.1.2,h.2⟩
   refine⟨k1.2.1.1.1,k1.2.1,?_⟩
   rintro⟨r',hr2,hil,e⟩
   have k2:=(s1 r' hil.2).1
   rw[←e] at k2
   have k3:=hphi.per.least_one h.1.1 hil.1 (hphi.per.trans k1.1 (hphi.per.symm k2))
   rw[←k3] at e
   exact k1.2.2 e
  ·have k1:=(s2 x ⟨px.1.2,px.2⟩).1
   rw[e] at k1
   exact hphi.per.least_one px.1.1 py.1.1 (hphi.per.trans k1 (hphi.per.symm (s2 y ⟨py.1.2,py.2⟩).1))
 have t3:tally (fun x=>IL x∧Go.Proofs.Ytgphnkkdmlohlaa.cyc n (phiF g) x (a k)) n≤1:=tally_one fun x y hx hy px py=>
  hphi.per.least_one px.1.1 py.1.1 (hphi.per.trans px.2 (hphi.per.symm py.2))
 have t4:=tally_split IL (fun x=>Go.Proofs.Ytgphnkkdmlohlaa.cyc n (phiF g) x (a k)) n
 have t5:=tally_split (chordB n f k a) Q n
 show 2*tally IL n≤_
 omega
end
theorem Rim.free {n:Nat} {f:Nat→Nat} {k:Nat} {a:Nat→Nat} (hs:Simp n f) (hr:Rim n f k a):
  ∃ i,0<i∧i<k∧∀ x,cyc n f (a i) x→onB n f k a (x ^^^ 1)→x=a i∨x=a (i-1) ^^^ 1:=by
 refine Classical.byContradiction fun hno=>?_
 have hno':∀ i,0<i→i<k→∃ x,cyc n f (a i) x∧onB n f k a (x ^^^ 1)∧x≠a i∧x≠a (i-1) ^^^ 1:=fun i h1 h2=>Classical.byContradiction fun q=>
  hno ⟨i,h1,h2,fun x c o=>Classical.byContradiction fun w=>q ⟨x,c,o,fun e=>w (Or.inl e),fun e=>w (Or.inr e)⟩⟩
 obtain⟨g,hg⟩:=hs.plan.out hs.pm hs.even (offB n f k a) (fun x h=>h.1)
 have h1:=hr.vert hs hg
 have h2:=hr.half hs hg
 have h3:=hr.parts hs hg
 have h4:=hr.faces hs hg
 have h5:=hr.faces_in hs hg
 have h6:=hr.stays hs hg
 have h7:=hr.chords hs hg hno'
 have h8:=hg.plan
 have h9:=tally_split Any (offB n f k a) n
 have e1:tally Any n=n:=tally_all fun _ _=>trivial
 have e2:tally (fun x=>Any x∧offB n f k a x) n=tally (offB n f k a) n:=tally_congr fun _ _=>⟨fun h=>h.2,fun h=>⟨trivial,h⟩⟩
 have e3:tally (fun x=>Any x∧¬ offB n f k a x) n=tally (fun x=>¬ offB n f k a x) n:=tally_congr fun _ _=>⟨fun h=>h.2,fun h=>⟨trivial,h⟩⟩
 have h10:=hs.even
 unfold PlanF at h8
 omega
end Go.Proofs.Ytgphnkkdmlohlaa
