/- The wood of a triangulation, each dart's color told by the places of an order: what comes around a vertex. -/
import Derived.Test.YtgphnkkdmlohlaaGreatZWTP29
import Derived.Test.YtgphnkkdmlohlaaGreatZWTP21
import Derived.Test.YtgphnkkdmlohlaaGreatZWTP28
import Derived.Test.YtgphnkkdmlohlaaGreatZWTP20
import Derived.Test.YtgphnkkdmlohlaaGreatZWTP27
import Derived.Test.YtgphnkkdmlohlaaGreatZWTP26
namespace Go.Proofs.YtgphnkkdmlohlaaGreat
section
set_option linter.unusedVariables false
set_option linter.unusedSectionVars false
def farP (s:List Nat) (pl:Int→Nat) (x:Nat):Nat:=plD s pl (x ^^^ 1)
def ahZ (s:List Nat) (pl:Int→Nat) (x:Nat):Bool:=decide (farP s pl x<plD s pl x)
theorem ahZ_iff {s:List Nat} {pl:Int→Nat} {x:Nat}:ahZ s pl x=true↔Ahd s pl x:=decide_eq_true_iff
theorem ahZ_yes {s:List Nat} {pl:Int→Nat} {x:Nat} (k:farP s pl x<plD s pl x):ahZ s pl x=true:=decide_eq_true k
theorem ahZ_no {s:List Nat} {pl:Int→Nat} {x:Nat} (k:plD s pl x≤farP s pl x):ahZ s pl x=false:=decide_eq_false (by omega)
def cornZ (s:List Nat) (r x:Nat):Bool:=nth (namesL s) x == nth (namesL s) r || nth (namesL s) x == nth (namesL s) (at' (phiL s) r) || nth (namesL s) x == nth (namesL s) (at' (phiL s) (at' (phiL s) r))
def outZ (s:List Nat) (r x:Nat):Bool:=cornZ s r x && cornZ s r (x ^^^ 1)
def colZ (s:List Nat) (r:Nat) (pl:Int→Nat) (x:Nat):Int:=
 if outZ s r x then -1 else if ahZ s pl x then (if ahZ s pl (at' (invL s) x) then (if ahZ s pl (at' s x) then -1 else 2) else 1) else
 if ahZ s pl (at' (invL s) (x ^^^ 1)) && ahZ s pl (at' s (x ^^^ 1)) then 0 else -1
theorem outZ_mate {s:List Nat} {r x:Nat}:outZ s r (x ^^^ 1)=outZ s r x:=by
 unfold outZ
 rw[xor_one_one,Bool.and_comm]
theorem unimodal {F:Nat→Nat} {P j:Nat} (hj:1<j) (h0:F 0<P) (h1:F j<P) (hb:∀ l,0<l→l<j→P<F l) (hd:∀ l,l<j→F l≠F (l+1)) (hm:∀ l,0<l→l<j→F l<F (l-1)→F l<F (l+1)→False):
  ∃ m,0<m∧m<j∧(∀ l,l<m→F l<F (l+1))∧∀ l,m≤l→l<j→F (l+1)<F l:=by
 have e:=hb (j-1) (by omega) (by omega)
 obtain⟨m,m1,m2,m3⟩:=least_nat (p:=fun l=>F (l+1)<F l) (j-1) (by show F (j-1+1)<F (j-1);rw[show j-1+1=j by omega];omega)
 have m0:0<m:=by
  rcases Nat.eq_zero_or_pos m with q|q
  ·subst q
   have:=hb 1 (by omega) hj
   have m2:F (0+1)<F 0:=m2
   rw[show 0+1=1 by omega] at m2
   omega
  ·exact q
 refine⟨m,m0,by omega,fun l hl=>?_,fun l hl=>?_⟩
 ·have:=m3 l hl
  have:=hd l (by omega)
  omega
 ·induction l with
  | zero=>omega
  | succ l ih=>
   intro hlj
   rcases Nat.lt_or_ge l m with q|q
   ·have:l+1=m:=by omega
    rw[this]
    exact m2
   ·have k:=ih q (by omega)
    have n:=hd (l+1) hlj
    have:=hm (l+1) (by omega) hlj (by rw[show l+1-1=l by omega];exact k)
    rcases Nat.lt_or_ge (F (l+1)) (F (l+1+1)) with w|w
    ·exact absurd w this
    ·omega
section
variable {s : List Nat} (h : TriS s) {r : Nat} (hr : r < s.length)
include h
theorem TriS.inv_lt {x:Nat} (hx:x<s.length):at' (invL s) x<s.length∧at' s (at' (invL s) x)=x∧nth (namesL s) (at' (invL s) x)=nth (namesL s) x:=by
 have k:=at_invL h.perm hx
 refine⟨k.2,k.1,?_⟩
 have:=names_turn h.perm k.2
 rw[k.1] at this
 exact this.symm
theorem far_next (pl:Int→Nat) {x:Nat} (hx:x<s.length):farP s pl (at' (invL s) (x ^^^ 1))=farP s pl (at' s x):=by
 have hm:=xor_one_lt h.even (h.phl (h.perm.lt hx))
 have e:=invL_at h.perm hm
 rw[(h.tri hx).1] at e
 unfold farP plD
 rw[e,xor_one_one,names_phi h.perm h.even (h.perm.lt hx)]
theorem far_prev (pl:Int→Nat) {x:Nat} (hx:x<s.length):farP s pl (at' s (x ^^^ 1))=farP s pl (at' (invL s) x):=by
 obtain⟨k1,k2,_⟩:=h.inv_lt hx
 have t:=(h.tri k1).1
 rw[k2] at t
 have e1:at' (phiL s) (at' (phiL s) x)=at' (invL s) x ^^^ 1:=by rw[h.phi_at (h.phl hx),t]
 unfold farP plD
 rw[←e1,names_phi h.perm h.even (h.phl hx),h.phi_at hx]
theorem turn_ne {x:Nat} (hx:x<s.length):at' s x≠x:=fun e=>by
 have hm:=xor_one_lt h.even hx
 have:=h.nomate hm
 rw[h.phi_at hm,xor_one_one] at this
 exact this e
include hr
variable {pl : Int → Nat} (hp : Place (orderL s r) pl)
include hp
theorem far_ne {x:Nat} (hx:x<s.length):farP s pl (at' s x)≠farP s pl x:=fun e=>by
 have hy:=h.perm.lt hx
 have k:=place_inj h hr hp (xor_one_lt h.even hy) (xor_one_lt h.even hx) e
 exact turn_ne h hx (h.dbl _ _ hy hx (names_turn h.perm hx) k)
theorem far_own {x:Nat} (hx:x<s.length):farP s pl x≠plD s pl x:=fun e=>h.loop x hx (place_inj h hr hp (xor_one_lt h.even hx) hx e).symm
theorem ahZ_mate {x:Nat} (hx:x<s.length):ahZ s pl (x ^^^ 1)=!ahZ s pl x:=by
 have:=far_own h hr hp hx
 unfold ahZ
 unfold farP at *
 rw[xor_one_one]
 by_cases k:plD s pl (x ^^^ 1)<plD s pl x
 ·rw[decide_eq_false (by omega),decide_eq_true k];rfl
 ·rw[decide_eq_true (by omega),decide_eq_false k];rfl
theorem corn_iff {x:Nat} (hx:x<s.length):cornZ s r x=true↔plD s pl x<2∨plD s pl x=(sizesL s).length-1:=by
 have b:=h.big
 have p0:=plc_first h hr hp
 have p1:=plc_second h hr hp
 have p2:=plc_last h hr hp
 have l1:=h.phl hr
 have l2:=h.phl l1
 unfold cornZ plD
 simp only[Bool.or_eq_true,beq_iff_eq]
 constructor
 ·rintro ((e|e)|e) <;> rw[e] <;> omega
 ·intro k
  have inj:∀ y,y<s.length→pl (nth (namesL s) x)=pl (nth (namesL s) y)→nth (namesL s) x=nth (namesL s) y:=fun y hy e=>place_inj h hr hp hx hy e
  rcases (by omega:pl (nth (namesL s) x)=0∨pl (nth (namesL s) x)=1∨pl (nth (namesL s) x)=(sizesL s).length-1) with q|q|q
  ·exact .inl (.inl (inj r hr (by omega)))
  ·exact .inl (.inr (inj _ l1 (by omega)))
  ·exact .inr (inj _ l2 (by omega))
theorem no_low {x:Nat} (hx:x<s.length) (h2:2≤farP s pl x) (ha:plD s pl x<farP s pl x) (k1:farP s pl x<farP s pl (at' (invL s) x)) (k2:farP s pl x<farP s pl (at' s x)):False:=by
 have hm:=xor_one_lt h.even hx
 obtain⟨i,hi⟩:∃ i,farP s pl x=i:=⟨_,rfl⟩
 have hpo:=place_of h hr hp hm
 have e0:pl (nth (namesL s) (x ^^^ 1))=i:=hi
 rw[e0] at hpo
 obtain⟨i1,i2,i3⟩:=h.inv_lt hm
 have a0:Ahd s pl (x ^^^ 1):=by
  show pl (nth (namesL s) (x ^^^ 1 ^^^ 1))<pl (nth (namesL s) (x ^^^ 1))
  rw[xor_one_one]
  exact ha
 have n1:¬ Ahd s pl (at' (invL s) (x ^^^ 1)):=fun a=>by
  have a:farP s pl (at' (invL s) (x ^^^ 1))<pl (nth (namesL s) (at' (invL s) (x ^^^ 1))):=a
  rw[far_next h pl hx,i3,e0] at a
  omega
 have n2:¬ Ahd s pl (at' s (x ^^^ 1)):=fun a=>by
  have a:farP s pl (at' s (x ^^^ 1))<pl (nth (namesL s) (at' s (x ^^^ 1))):=a
  rw[far_prev h pl hx,names_turn h.perm hm,e0] at a
  omega
 obtain⟨⟨q,u,j,J,hk,hj⟩,hl⟩:=run_at h hr hp (i:=i) (by omega) hpo.1
 have b1:=hk.begin h i1 (by rw[i3,hpo.2]) n1 (by rw[i2];exact a0)
 rw[i2] at b1
 have b2:=hk.last h hm hpo.2.symm a0 n2
 exact hk.ne (by rw[←b1,←b2])
end
section
variable {s : List Nat} (h : TriS s) {r : Nat} (hr : r < s.length) {pl : Int → Nat} (hp : Place (orderL s r) pl)
include h hr hp
theorem col_ahead {x:Nat} (hx:x<s.length) (ho:outZ s r x=false) (ha:ahZ s pl x=true):
  colZ s r pl x=(if ahZ s pl (at' (invL s) x) then (if ahZ s pl (at' s x) then -1 else 2) else 1)∧colZ s r pl (x ^^^ 1)=if ahZ s pl (at' (invL s) x) && ahZ s pl (at' s x) then 0 else -1:=by
 constructor
 ·unfold colZ
  rw[ho,ha]
  rfl
 ·unfold colZ
  rw[outZ_mate,ho,ahZ_mate h hr hp hx,ha,xor_one_one]
  rfl
theorem col_behind {x:Nat} (hx:x<s.length) (ho:outZ s r x=false) (ha:plD s pl x<farP s pl x):
  colZ s r pl x=(if farP s pl (at' s x)<farP s pl x∧farP s pl (at' (invL s) x)<farP s pl x then 0 else -1) ∧
  colZ s r pl (x ^^^ 1)=if farP s pl (at' s x)<farP s pl x then (if farP s pl (at' (invL s) x)<farP s pl x then -1 else 2) else 1:=by
 have hm:=xor_one_lt h.even hx
 have hz:ahZ s pl x=false:=ahZ_no (by omega)
 have hz2:ahZ s pl (x ^^^ 1)=true:=by rw[ahZ_mate h hr hp hx,hz];rfl
 have e1:ahZ s pl (at' (invL s) (x ^^^ 1))=decide (farP s pl (at' s x)<farP s pl x):=by
  unfold ahZ
  rw[far_next h pl hx]
  have:plD s pl (at' (invL s) (x ^^^ 1))=farP s pl x:=by unfold plD farP plD;rw[(h.inv_lt hm).2.2]
  rw[this]
 have e2:ahZ s pl (at' s (x ^^^ 1))=decide (farP s pl (at' (invL s) x)<farP s pl x):=by
  unfold ahZ
  rw[far_prev h pl hx]
  have:plD s pl (at' s (x ^^^ 1))=farP s pl x:=by unfold plD farP plD;rw[names_turn h.perm hm]
  rw[this]
 have k:=(col_ahead h hr hp hm (by rw[outZ_mate,ho]) hz2)
 rw[xor_one_one,e1,e2] at k
 rw[k.1,k.2]
 simp only[Bool.and_eq_true,decide_eq_true_eq]
 exact⟨trivial,trivial⟩
structure Six (s:List Nat) (r:Nat) (pl:Int→Nat) (v:Int) (q u j J m:Nat):Prop where
 run:RunAt s pl v q u j J
 m0:0<m
 mj:m<j
 o1:colZ s r pl u=1∧colZ s r pl (u ^^^ 1)=-1
 i0:∀ l,0<l→l<J→colZ s r pl (itf (at' s) l u)=-1∧colZ s r pl (itf (at' s) l u ^^^ 1)=0
 o2:colZ s r pl q=2∧colZ s r pl (q ^^^ 1)=-1
 i1:∀ l,0<l→l<m→colZ s r pl (itf (at' s) l q)=-1∧colZ s r pl (itf (at' s) l q ^^^ 1)=1
 o0:colZ s r pl (itf (at' s) m q)=0∧colZ s r pl (itf (at' s) m q ^^^ 1)=-1
 i2:∀ l,m<l→l<j→colZ s r pl (itf (at' s) l q)=-1∧colZ s r pl (itf (at' s) l q ^^^ 1)=2
theorem it_in {x:Nat} (hx:x<s.length) (m:Nat):itf (at' s) m x<s.length∧nth (namesL s) (itf (at' s) m x)=nth (namesL s) x:=by
 induction m with
 | zero=>exact⟨hx,rfl⟩
 | succ m ih=>rw[itf_succ];exact⟨h.perm.lt ih.1,by rw[names_turn h.perm ih.1,ih.2]⟩
theorem inv_it {x:Nat} (hx:x<s.length) (m:Nat):at' (invL s) (itf (at' s) (m+1) x)=itf (at' s) m x:=by
 rw[itf_succ]
 exact invL_at h.perm (it_in h hr hp hx m).1
theorem six_at {x:Nat} (hx:x<s.length) (hc:cornZ s r x=false):∃ q u j J m,Six s r pl (nth (namesL s) x) q u j J m:=by
 have hpo:=place_of h hr hp hx
 obtain⟨i,hi⟩:∃ i,plD s pl x=i:=⟨_,rfl⟩
 have e0:pl (nth (namesL s) x)=i:=hi
 rw[e0] at hpo
 have hci:¬ (i<2∨i=(sizesL s).length-1):=fun k=>by
  have:=(corn_iff h hr hp hx).2 (by rw[hi];exact k)
  rw[this] at hc
  cases hc
 obtain⟨⟨q,u,j,J,hk,hj⟩,_⟩:=run_at h hr hp (i:=i) (by omega) hpo.1
 have hj:=hj (by omega)
 rw[hpo.2] at hk
 have cornv:∀ y,nth (namesL s) y=nth (namesL s) x→cornZ s r y=false:=fun y e=>by unfold cornZ at hc ⊢;rw[e];exact hc
 have outv:∀ y,nth (namesL s) y=nth (namesL s) x→outZ s r y=false:=fun y e=>by unfold outZ;rw[cornv y e];rfl
 have pv:∀ y,nth (namesL s) y=nth (namesL s) x→plD s pl y=i:=fun y e=>by unfold plD;rw[e];exact e0
 have iu:=it_in h hr hp hk.ul
 have iq:=it_in h hr hp hk.ql
 have yes:∀ l,l≤J→ahZ s pl (itf (at' s) l u)=true:=fun l hl=>ahZ_iff.2 (hk.yes l hl)
 have no:∀ l,0<l→l<j→ahZ s pl (itf (at' s) l q)=false:=fun l l0 l1=>by
  cases e:ahZ s pl (itf (at' s) l q)
  ·rfl
  ·exact absurd (ahZ_iff.1 e) (hk.no l l0 l1)
 have J0:0<J:=by
  rcases Nat.eq_zero_or_pos J with e|e
  ·have:=hk.uq
   rw[e] at this
   exact absurd this.symm hk.ne
  ·exact e
 have n1:ahZ s pl (at' s q)=false:=no 1 (by omega) hj
 have n2:ahZ s pl (at' (invL s) u)=false:=by
  have:=no (j-1) (by omega) (by omega)
  have e:at' (invL s) (itf (at' s) (j-1+1) q)=itf (at' s) (j-1) q:=inv_it h hr hp hk.ql _
  rw[show j-1+1=j by omega,hk.qu] at e
  rw[e]
  exact this
 have a1:ahZ s pl (at' s u)=true:=yes 1 (by omega)
 have a2:ahZ s pl (at' (invL s) q)=true:=by
  have e:at' (invL s) (itf (at' s) (J-1+1) u)=itf (at' s) (J-1) u:=inv_it h hr hp hk.ul _
  rw[show J-1+1=J by omega,hk.uq] at e
  rw[e]
  exact yes (J-1) (by omega)
 have au:ahZ s pl u=true:=yes 0 (Nat.zero_le _)
 have aq:ahZ s pl q=true:=by have:=yes J (Nat.le_refl _);rwa [hk.uq] at this
 have far_of_no:∀ l,0<l→l<j→i<farP s pl (itf (at' s) l q):=fun l l0 l1=>by
  have k1:=no l l0 l1
  have k2:=far_own h hr hp (iq l).1
  have k3:=pv _ ((iq l).2.trans hk.qv)
  unfold ahZ at k1
  have:=of_decide_eq_false k1
  omega
 have far_of_yes:∀ y,nth (namesL s) y=nth (namesL s) x→ahZ s pl y=true→farP s pl y<i:=fun y e a=>by
  have:=of_decide_eq_true a
  rw[pv y e] at this
  exact this
 obtain⟨m,m0,mj,m1,m2⟩:=unimodal (F:=fun l=>farP s pl (itf (at' s) l q)) (P:=i) hj (far_of_yes q hk.qv aq) (by show farP s pl (itf (at' s) j q)<i;rw[hk.qu];exact far_of_yes u hk.uv au) far_of_no
  (fun l hl=>by show farP s pl (itf (at' s) l q)≠farP s pl (itf (at' s) (l+1) q);rw[itf_succ];exact fun e=>far_ne h hr hp (iq l).1 e.symm)
  (fun l l0 l1 k1 k2=>by
   obtain⟨t,rfl⟩:∃ t,l=t+1:=⟨l-1,by omega⟩
   have k1:farP s pl (itf (at' s) (t+1) q)<farP s pl (itf (at' s) t q):=k1
   have k2:farP s pl (itf (at' s) (t+1) q)<farP s pl (itf (at' s) (t+1+1) q):=k2
   have fb:=far_of_no (t+1) l0 l1
   refine no_low h hr hp (iq (t+1)).1 (by omega) (by rw[pv _ ((iq (t+1)).2.trans hk.qv)];exact fb) ?_ ?_
   ·rw[inv_it h hr hp hk.ql];exact k1
   ·rw[←itf_succ (at' s)];exact k2)
 have m1:∀ l,l<m→farP s pl (itf (at' s) l q)<farP s pl (itf (at' s) (l+1) q):=m1
 have m2:∀ l,m≤l→l<j→farP s pl (itf (at' s) (l+1) q)<farP s pl (itf (at' s) l q):=m2
 have beh:∀ l,0<l→l<j→colZ s r pl (itf (at' s) l q)=(if farP s pl (itf (at' s) (l+1) q)<farP s pl (itf (at' s) l q)∧farP s pl (itf (at' s) (l-1) q)<farP s pl (itf (at' s) l q) then 0 else -1) ∧
   colZ s r pl (itf (at' s) l q ^^^ 1)=if farP s pl (itf (at' s) (l+1) q)<farP s pl (itf (at' s) l q) then (if farP s pl (itf (at' s) (l-1) q)<farP s pl (itf (at' s) l q) then -1 else 2) else 1:=fun l l0 l1=>by
  have k:=col_behind h hr hp (iq l).1 (outv _ ((iq l).2.trans hk.qv)) (by rw[pv _ ((iq l).2.trans hk.qv)];exact far_of_no l l0 l1)
  rw[←itf_succ (at' s)] at k
  obtain⟨t,rfl⟩:∃ t,l=t+1:=⟨l-1,by omega⟩
  rw[inv_it h hr hp hk.ql t] at k
  exact k
 refine⟨q,u,j,J,m,hk,m0,mj,?_,fun l l0 l1=>?_,?_,fun l l0 l1=>?_,?_,fun l l0 l1=>?_⟩
 ·have k:=col_ahead h hr hp hk.ul (outv _ hk.uv) au
  rw[n2] at k
  exact k
 ·have k:=col_ahead h hr hp (iu l).1 (outv _ ((iu l).2.trans hk.uv)) (yes l (by omega))
  rw[←itf_succ (at' s)] at k
  obtain⟨t,rfl⟩:∃ t,l=t+1:=⟨l-1,by omega⟩
  rw[inv_it h hr hp hk.ul t,yes t (by omega),yes (t+1+1) (by omega)] at k
  exact k
 ·have k:=col_ahead h hr hp hk.ql (outv _ hk.qv) aq
  rw[a2,n1] at k
  exact k
 ·have k:=beh l l0 (by omega)
  have k1:=m1 l l1
  rw[if_neg (fun t=>by omega),if_neg (by omega)] at k
  exact k
 ·have k:=beh m m0 mj
  have k1:=m2 m (Nat.le_refl _) mj
  have k2:=m1 (m-1) (by omega)
  rw[show m-1+1=m by omega] at k2
  rw[if_pos ⟨k1,k2⟩,if_pos k1,if_pos k2] at k
  exact k
 ·have k:=beh l (by omega) l1
  have k1:=m2 l (by omega) l1
  have k2:=m2 (l-1) (by omega) (by omega)
  rw[show l-1+1=l by omega] at k2
  rw[if_neg (fun t=>by omega),if_pos k1,if_neg (by omega)] at k
  exact k
end
end
section
set_option linter.unusedVariables false
set_option linter.unusedSectionVars false
theorem all_rise {F:Nat→Nat} {n:Nat} (hd:∀ l,l<n→F l≠F (l+1)) (hm:∀ l,0<l→l<n→F l<F (l-1)→F l<F (l+1)→False) (hx:∀ l,l≤n→F l≤F n):∀ l,l<n→F l<F (l+1):=fun l hl=>by
 have d:=hd l hl
 rcases Nat.lt_or_ge (F l) (F (l+1)) with q|q
 ·exact q
 ·exfalso
  have all:∀ k,l+k<n→F (l+k+1)<F (l+k):=fun k=>by
   induction k with
   | zero=>intro _;show F (l+1)<F l;omega
   | succ k ih=>
    intro hk
    have i:=ih (by omega)
    have d:=hd (l+(k+1)) hk
    have:=hm (l+(k+1)) (by omega) hk (by rw[show l+(k+1)-1=l+k by omega];exact i)
    rcases Nat.lt_or_ge (F (l+(k+1))) (F (l+(k+1)+1)) with w|w
    ·exact absurd w this
    ·omega
  have i:=all (n-1-l) (by omega)
  rw[show l+(n-1-l)+1=n by omega] at i
  have:=hx (l+(n-1-l)) (by omega)
  omega
theorem all_fall {F:Nat→Nat} {n:Nat} (hd:∀ l,l<n→F l≠F (l+1)) (hm:∀ l,0<l→l<n→F l<F (l-1)→F l<F (l+1)→False) (hx:∀ l,l≤n→F l≤F 0):∀ l,l<n→F (l+1)<F l
 | 0,hl=>by
  have d:=hd 0 hl
  have:F (0+1)≤F 0:=hx (0+1) (by omega)
  omega
 | l+1,hl=>by
  have i:=all_fall hd hm hx l (by omega)
  have d:=hd (l+1) hl
  have:=hm (l+1) (by omega) hl (by rw[show l+1-1=l by omega];exact i)
  rcases Nat.lt_or_ge (F (l+1)) (F (l+1+1)) with w|w
  ·exact absurd w this
  ·omega
section
variable {s : List Nat} (h : TriS s)
include h
theorem orb_full {d:Nat} (hd:d<s.length):∃ m,0<m∧itf (at' s) m d=d∧(∀ l l',l<m→l' < m→itf (at' s) l d=itf (at' s) l' d→l=l')∧(∀ x,x<s.length→nth (namesL s) x=nth (namesL s) d→∃ l,l<m∧x=itf (at' s) l d)∧orbitL s d=(List.range m).map fun l=>itf (at' s) l d:=by
 obtain⟨m,m0,m1,m2⟩:=orbitL_map h.perm hd
 have e:orbitL s d=(List.range m).map fun l=>itf (at' s) l d:=by rw[m2];exact List.map_congr_left fun l _=>it_itf s l d
 refine⟨m,m0,by rw[←it_itf];exact m1,fun l l' h1 h2 q=>?_,fun x hx q=>?_,e⟩
 ·have hn:=orbitL_nodup h.perm hd
  rw[e] at hn
  have hp:=List.pairwise_iff_getElem.1 hn
  rcases Nat.lt_trichotomy l l' with w|w|w
  ·exact absurd (by rw[List.getElem_map,List.getElem_map,List.getElem_range,List.getElem_range];exact q) (hp l l' (by simpa using h1) (by simpa using h2) w)
  ·exact w
  ·exact absurd (by rw[List.getElem_map,List.getElem_map,List.getElem_range,List.getElem_range];exact q.symm) (hp l' l (by simpa using h2) (by simpa using h1) w)
 ·have:=(names_orbit h.perm hd).2 ⟨hx,q⟩
  rw[e] at this
  obtain⟨l,hl,e2⟩:=List.mem_map.1 this
  exact⟨l,List.mem_range.1 hl,e2.symm⟩
variable {r : Nat} (hr : r < s.length) {pl : Int → Nat} (hp : Place (orderL s r) pl)
include hr hp
theorem far_lt {x:Nat} (hx:x<s.length):farP s pl x<(sizesL s).length:=pl_ltV h hr hp (xor_one_lt h.even hx)
theorem corner_one {x:Nat} (hx:x<s.length) (e:nth (namesL s) x=nth (namesL s) r) (ho:outZ s r x=false):colZ s r pl x=-1∧colZ s r pl (x ^^^ 1)=1:=by
 obtain⟨m,m0,m1,mi,mc,_⟩:=orb_full h hr
 have b:=h.big
 have p0:=plc_first h hr hp
 have p1:=plc_second h hr hp
 have p2:=plc_last h hr hp
 have l1:=h.phl hr
 have l2:=h.phl l1
 have io:=it_in h hr hp hr
 have own:∀ l,plD s pl (itf (at' s) l r)=0:=fun l=>by unfold plD;rw[(io l).2];exact p0
 have elast:itf (at' s) (m-1) r=at' (phiL s) (at' (phiL s) r) ^^^ 1:=by
  have e1:at' s (itf (at' s) (m-1) r)=r:=by rw[←itf_succ (at' s),show m-1+1=m by omega];exact m1
  have e2:at' s (at' (phiL s) (at' (phiL s) r) ^^^ 1)=r:=by rw[←h.phi_at l2];exact (h.three r hr).1
  exact h.perm.pm.inj (io _).1 (xor_one_lt h.even l2) (by rw[e1,e2])
 have flast:farP s pl (itf (at' s) (m-1) r)=(sizesL s).length-1:=by
  rw[elast]
  unfold farP plD
  rw[xor_one_one,p2]
 have f0:farP s pl r=1:=by
  unfold farP plD
  rw[←names_phi h.perm h.even hr,p1]
 have big:∀ l,0<l→l<m→2≤farP s pl (itf (at' s) l r):=fun l l0 l1=>by
  have k1:=far_own h hr hp (io l).1
  rw[own l] at k1
  rcases Nat.lt_or_ge 1 (farP s pl (itf (at' s) l r)) with q|q
  ·exact q
  ·exfalso
   have k2:farP s pl (itf (at' s) l r)=farP s pl r:=by omega
   have k3:=place_inj h hr hp (xor_one_lt h.even (io l).1) (xor_one_lt h.even hr) k2
   have:=mi l 0 l1 m0 (h.dbl _ _ (io l).1 hr (io l).2 k3)
   omega
 have rise:=all_rise (F:=fun l=>farP s pl (itf (at' s) l r)) (n:=m-1) (fun l _=>by
   show farP s pl (itf (at' s) l r)≠farP s pl (itf (at' s) (l+1) r)
   rw[itf_succ]
   exact fun e=>far_ne h hr hp (io l).1 e.symm) (fun l l0 l1 k1 k2=>by
   obtain⟨t,rfl⟩:∃ t,l=t+1:=⟨l-1,by omega⟩
   have fb:=big (t+1) l0 (by omega)
   refine no_low h hr hp (io (t+1)).1 fb (by rw[own];omega) ?_ ?_
   ·rw[inv_it h hr hp hr];exact k1
   ·rw[←itf_succ (at' s)];exact k2) (fun l hl=>by
   show farP s pl (itf (at' s) l r)≤farP s pl (itf (at' s) (m-1) r)
   have:=far_lt h hr hp (io l).1
   omega)
 have rise:∀ l,l<m-1→farP s pl (itf (at' s) l r)<farP s pl (itf (at' s) (l+1) r):=rise
 obtain⟨l,lm,rfl⟩:=mc x hx e
 have corner_no:∀ y,y<s.length→outZ s r y=false→plD s pl y=0→plD s pl (y ^^^ 1)<2∨plD s pl (y ^^^ 1)=(sizesL s).length-1→False:=fun y hy k1 k2 k3=>by
  unfold outZ at k1
  rw[(corn_iff h hr hp hy).2 (.inl (by omega)),(corn_iff h hr hp (xor_one_lt h.even hy)).2 k3] at k1
  cases k1
 rcases Nat.eq_zero_or_pos l with q|q
 ·subst q
  exact absurd (.inl (by show farP s pl r<2;omega)) (fun t=>corner_no _ (io 0).1 ho (own 0) t)
 rcases Nat.lt_or_ge l (m-1) with q2|q2
 ·obtain⟨t,rfl⟩:∃ t,l=t+1:=⟨l-1,by omega⟩
  have k:=col_behind h hr hp (io (t+1)).1 ho (by rw[own];have:=big (t+1) q lm;omega)
  have k1:=rise (t+1) q2
  rw[←itf_succ (at' s),inv_it h hr hp hr] at k
  rw[if_neg (fun z=>by omega),if_neg (by omega)] at k
  exact k
 ·have:l=m-1:=by omega
  subst this
  exact absurd (.inr flast) (fun t=>corner_no _ (io _).1 ho (own _) t)
theorem corner_two {x:Nat} (hx:x<s.length) (e:nth (namesL s) x=nth (namesL s) (at' (phiL s) r)) (ho:outZ s r x=false):colZ s r pl x=-1∧colZ s r pl (x ^^^ 1)=2:=by
 have l1:=h.phl hr
 have l2:=h.phl l1
 obtain⟨m,m0,m1,mi,mc,_⟩:=orb_full h l1
 have b:=h.big
 have p0:=plc_first h hr hp
 have p1:=plc_second h hr hp
 have p2:=plc_last h hr hp
 have rm:=xor_one_lt h.even hr
 have io:=it_in h hr hp l1
 have own:∀ l,plD s pl (itf (at' s) l (at' (phiL s) r))=1:=fun l=>by unfold plD;rw[(io l).2];exact p1
 have elast:itf (at' s) (m-1) (at' (phiL s) r)=r ^^^ 1:=by
  have e1:at' s (itf (at' s) (m-1) (at' (phiL s) r))=at' (phiL s) r:=by rw[←itf_succ (at' s),show m-1+1=m by omega];exact m1
  exact h.perm.pm.inj (io _).1 rm (by rw[e1,h.phi_at hr])
 have flast:farP s pl (itf (at' s) (m-1) (at' (phiL s) r))=0:=by
  rw[elast]
  unfold farP plD
  rw[xor_one_one,p0]
 have f0:farP s pl (at' (phiL s) r)=(sizesL s).length-1:=by
  unfold farP plD
  rw[←names_phi h.perm h.even l1,p2]
 have big:∀ l,l<m-1→2≤farP s pl (itf (at' s) l (at' (phiL s) r)):=fun l l1'=>by
  have k1:=far_own h hr hp (io l).1
  rw[own l] at k1
  rcases Nat.lt_or_ge 1 (farP s pl (itf (at' s) l (at' (phiL s) r))) with q|q
  ·exact q
  ·exfalso
   have k2:farP s pl (itf (at' s) l (at' (phiL s) r))=farP s pl (itf (at' s) (m-1) (at' (phiL s) r)):=by omega
   have k3:=place_inj h hr hp (xor_one_lt h.even (io l).1) (xor_one_lt h.even (io (m-1)).1) k2
   have:=mi l (m-1) (by omega) (by omega) (h.dbl _ _ (io l).1 (io (m-1)).1 (by rw[(io l).2,(io (m-1)).2]) k3)
   omega
 have fall:=all_fall (F:=fun l=>farP s pl (itf (at' s) l (at' (phiL s) r))) (n:=m-1) (fun l _=>by
   show farP s pl (itf (at' s) l (at' (phiL s) r))≠farP s pl (itf (at' s) (l+1) (at' (phiL s) r))
   rw[itf_succ]
   exact fun e=>far_ne h hr hp (io l).1 e.symm) (fun l l0 l1' k1 k2=>by
   obtain⟨t,rfl⟩:∃ t,l=t+1:=⟨l-1,by omega⟩
   have fb:=big (t+1) (by omega)
   refine no_low h hr hp (io (t+1)).1 fb (by rw[own];omega) ?_ ?_
   ·rw[inv_it h hr hp l1];exact k1
   ·rw[←itf_succ (at' s)];exact k2) (fun l hl=>by
   show farP s pl (itf (at' s) l (at' (phiL s) r))≤farP s pl (at' (phiL s) r)
   have:=far_lt h hr hp (io l).1
   omega)
 have fall:∀ l,l<m-1→farP s pl (itf (at' s) (l+1) (at' (phiL s) r))<farP s pl (itf (at' s) l (at' (phiL s) r)):=fall
 obtain⟨l,lm,rfl⟩:=mc x hx e
 have corner_no:∀ y,y<s.length→outZ s r y=false→plD s pl y=1→plD s pl (y ^^^ 1)<2∨plD s pl (y ^^^ 1)=(sizesL s).length-1→False:=fun y hy k1 k2 k3=>by
  unfold outZ at k1
  rw[(corn_iff h hr hp hy).2 (.inl (by omega)),(corn_iff h hr hp (xor_one_lt h.even hy)).2 k3] at k1
  cases k1
 rcases Nat.eq_zero_or_pos l with q|q
 ·subst q
  exact absurd (.inr f0) (fun t=>corner_no _ (io 0).1 ho (own 0) t)
 rcases Nat.lt_or_ge l (m-1) with q2|q2
 ·obtain⟨t,rfl⟩:∃ t,l=t+1:=⟨l-1,by omega⟩
  have k:=col_behind h hr hp (io (t+1)).1 ho (by rw[own];have:=big (t+1) q2;omega)
  have k1:=fall (t+1) q2
  have k2:=fall t (by omega)
  rw[←itf_succ (at' s),inv_it h hr hp l1] at k
  rw[if_neg (fun z=>by omega),if_pos k1,if_neg (by omega)] at k
  exact k
 ·have:l=m-1:=by omega
  subst this
  exact absurd (.inl (by show farP s pl _<2;omega)) (fun t=>corner_no _ (io _).1 ho (own _) t)
theorem corner_zero {x:Nat} (hx:x<s.length) (e:nth (namesL s) x=nth (namesL s) (at' (phiL s) (at' (phiL s) r))) (ho:outZ s r x=false):colZ s r pl x=-1∧colZ s r pl (x ^^^ 1)=0:=by
 have p2:=plc_last h hr hp
 have all:∀ y,y<s.length→nth (namesL s) y=nth (namesL s) x→ahZ s pl y=true:=fun y hy k=>by
  refine ahZ_yes ?_
  have k1:=far_own h hr hp hy
  have k2:=far_lt h hr hp hy
  have k3:plD s pl y=(sizesL s).length-1:=by unfold plD;rw[k,e];exact p2
  omega
 obtain⟨i1,i2,i3⟩:=h.inv_lt hx
 have k:=col_ahead h hr hp hx ho (all x hx rfl)
 rw[all _ i1 i3,all _ (h.perm.lt hx) (names_turn h.perm hx)] at k
 exact k
theorem corner_in {x:Nat} (hx:x<s.length) (hc:cornZ s r x=true) (ho:outZ s r x=false):colZ s r pl x=-1 ∧
  colZ s r pl (x ^^^ 1)=if nth (namesL s) x=nth (namesL s) (at' (phiL s) (at' (phiL s) r)) then 0 else if nth (namesL s) x=nth (namesL s) r then 1 else 2:=by
 unfold cornZ at hc
 simp only[Bool.or_eq_true,beq_iff_eq] at hc
 by_cases k1:nth (namesL s) x=nth (namesL s) (at' (phiL s) (at' (phiL s) r))
 ·rw[if_pos k1];exact corner_zero h hr hp hx k1 ho
 ·rw[if_neg k1]
  by_cases k2:nth (namesL s) x=nth (namesL s) r
  ·rw[if_pos k2];exact corner_one h hr hp hx k2 ho
  ·rw[if_neg k2]
   exact corner_two h hr hp hx (by rcases hc with (k|k)|k <;> first|exact k|exact absurd k k1|exact absurd k k2) ho
theorem col_outer {x:Nat} (ho:outZ s r x=true):colZ s r pl x=-1:=by unfold colZ;rw[ho];rfl
theorem col_range (x:Nat):colZ s r pl x=-1∨colZ s r pl x=0∨colZ s r pl x=1∨colZ s r pl x=2:=by
 unfold colZ
 repeat' split
 all_goals simp
theorem col_unique {x:Nat} (hx:x<s.length) (hc:cornZ s r x=false) {c:Int} (h0:0≤c) (h2:c≤2):∃ d,d<s.length∧nth (namesL s) d=nth (namesL s) x∧colZ s r pl d=c∧∀ y,y<s.length→nth (namesL s) y=nth (namesL s) x→colZ s r pl y=c→y=d:=by
 obtain⟨q,u,j,J,m,k⟩:=six_at h hr hp hx hc
 have iq:=it_in h hr hp k.run.ql
 have tell:∀ y,y<s.length→nth (namesL s) y=nth (namesL s) x→(y=u∧colZ s r pl y=1)∨(y=q∧colZ s r pl y=2)∨(y=itf (at' s) m q∧colZ s r pl y=0)∨colZ s r pl y=-1:=fun y hy e=>by
  rcases k.run.cases h hy e with ⟨l,l0,l1,l2⟩|⟨l,l1,l2⟩
  ·rcases Nat.lt_trichotomy l m with e|e|e
   ·have:=k.i1 l l0 e
    rw[←l2] at this
    exact .inr (.inr (.inr this.1))
   ·have:=k.o0
    rw[e] at l2
    rw[←l2] at this
    exact .inr (.inr (.inl ⟨l2,this.1⟩))
   ·have:=k.i2 l e l1
    rw[←l2] at this
    exact .inr (.inr (.inr this.1))
  ·rcases Nat.eq_zero_or_pos l with e|e
   ·subst e
    have:=k.o1
    rw[show u=y from l2.symm] at this
    exact .inl ⟨l2,this.1⟩
   ·rcases Nat.lt_or_ge l J with e2|e2
    ·have:=k.i0 l e e2
     rw[←l2] at this
     exact .inr (.inr (.inr this.1))
    ·have e3:l=J:=by omega
     rw[e3,k.run.uq] at l2
     have:=k.o2
     rw[←l2] at this
     exact .inr (.inl ⟨l2,this.1⟩)
 rcases (by omega:c=0∨c=1∨c=2) with e|e|e <;> subst e
 ·refine⟨_,(iq m).1,(iq m).2.trans k.run.qv,k.o0.1,fun y hy e1 e2=>?_⟩
  rcases tell y hy e1 with ⟨a,b⟩|⟨a,b⟩|⟨a,b⟩|b <;> first|exact a|(rw[e2] at b;exact absurd b (by decide))
 ·refine⟨u,k.run.ul,k.run.uv,k.o1.1,fun y hy e1 e2=>?_⟩
  rcases tell y hy e1 with ⟨a,b⟩|⟨a,b⟩|⟨a,b⟩|b <;> first|exact a|(rw[e2] at b;exact absurd b (by decide))
 ·refine⟨q,k.run.ql,k.run.qv,k.o2.1,fun y hy e1 e2=>?_⟩
  rcases tell y hy e1 with ⟨a,b⟩|⟨a,b⟩|⟨a,b⟩|b <;> first|exact a|(rw[e2] at b;exact absurd b (by decide))
theorem col_goes {x:Nat} (hx:x<s.length):(colZ s r pl x=1∨colZ s r pl x=2→farP s pl x<plD s pl x)∧(colZ s r pl x=0→plD s pl x<farP s pl x):=by
 by_cases ho:outZ s r x=true
 ·rw[col_outer h hr hp ho]
  exact⟨fun k=>by rcases k with k|k <;> exact absurd k (by decide),fun k=>absurd k (by decide)⟩
 ·have ho:outZ s r x=false:=by simpa using ho
  have n:=far_own h hr hp hx
  cases a:ahZ s pl x
  ·have a':=of_decide_eq_false a
   have k:=(col_behind h hr hp hx ho (by omega)).1
   refine⟨fun e=>?_,fun _=>by omega⟩
   rw[k] at e
   split at e <;> rcases e with e|e <;> exact absurd e (by decide)
  ·have a':=of_decide_eq_true a
   refine⟨fun _=>a',fun e=>?_⟩
   rw[(col_ahead h hr hp hx ho a).1] at e
   repeat' split at e
   all_goals exact absurd e (by decide)
theorem col_corner {x:Nat} (hx:x<s.length) (hc:cornZ s r x=true):colZ s r pl x=-1:=by
 by_cases ho:outZ s r x=true
 ·exact col_outer h hr hp ho
 ·exact (corner_in h hr hp hx hc (by simpa using ho)).1
end
end
section
open Go.RowKit
set_option linter.unusedVariables false
set_option linter.unusedSimpArgs false
theorem corners_no (R:Reg) (w:World) (hI:Inv R w) (p:Value) (s:List Nat) (rt:Int) (lone:Nat) (hp:MapAt R p s rt lone) (h:triB s lone=false):
  Calls Tryz.prog 17 #[p] w (RetV R w (.tuple #[nilS,.int .i64 8])):=by
 have hT:Calls Tryz.prog 18 #[p] w (RetV R w (.bool false)):=by
  have:=etri_any R w hI p s rt lone hp
  rwa [h] at this
 have HT:=Lib.hid hT
 obtain⟨b,rfl,hb⟩:=hp
 clear hT hb
 go_enter Tryz.func17,Tryz.ntmps17
 go_wp2_with fail
 refine HT.out.mono ?_
 rintro e w1 ⟨rfl,R1,he1⟩
 go_wp2_with fail
 go_ret2
 exact⟨rfl,R1,he1⟩
def cor3 (s:List Nat) (r:Nat):List Int:=[nth (namesL s) r,nth (namesL s) (at' (phiL s) r),nth (namesL s) (at' (phiL s) (at' (phiL s) r))]
def RetCor (R:Reg) (w:World) (s:List Nat) (r:Nat) (e:Ending) (w':World):Prop:=∃ v R',e=.returned (.tuple #[v,.int .i64 0])∧Ev R w R' w'∧OwnI R' w.heap.size 3 w' v (cor3 s r)
set_option maxRecDepth 100000 in
set_option maxHeartbeats 2000000 in
theorem corners_tri (R:Reg) (w:World) (hI:Inv R w) (p:Value) (s:List Nat) (r:Nat) (hp:MapAt R p s (r:Int) 0) (h:TriS s) (hr:r<s.length):
  Calls Tryz.prog 17 #[p] w (RetCor R w s r):=by
 have HT:=Lib.hid (fun R' w' (he:Ev R w R' w')=>by
  have:=etri_any R' w' he.inv p s (r:Int) 0 (he.map hp)
  rwa [h.tri_b] at this)
 have HRo:=Lib.hid (fun R' w' (he:Ev R w R' w')=>root_any R' w' he.inv p s (r:Int) 0 (he.map hp))
 have HBo:=Lib.hid (fun R' w' (he:Ev R w R' w')=>by
  have:=border_any R' w' he.inv p s (r:Int) 0 (he.map hp) (r:Int)
  rwa [orbI_in (by rw[phiL_length];exact hr),h.orb hr] at this)
 have HVx:=Lib.hid (fun R' w' (he:Ev R w R' w') (d:Nat) (hd:d<s.length)=>by
  have:=vertex_any R' w' he.inv p s (r:Int) 0 (he.map hp) (d:Int)
  rwa [nameI_in hd] at this)
 obtain⟨T,hT⟩:∃ T,[r,at' (phiL s) r,at' (phiL s) (at' (phiL s) r)]=T:=⟨_,rfl⟩
 rw[hT] at HBo
 have HTd:Hid (∀ i,i<3→∃ d:Nat,nth (toI T) i=(d:Int)∧d<s.length∧(cor3 s r)[i]?=some (nth (namesL s) d)):=Lib.hid fun i hi=>by
  rw[←hT]
  match i,hi with
  | 0,_=>exact⟨_,rfl,hr,rfl⟩
  | 1,_=>exact⟨_,rfl,h.phl hr,rfl⟩
  | 2,_=>exact⟨_,rfl,h.phl (h.phl hr),rfl⟩
 have hTl:(toI T).length=3:=by rw[←hT];rfl
 have HL:=Lib.hid hTl
 have HI:=Lib.hid hI
 obtain⟨C,hC⟩:∃ C,cor3 s r=C:=⟨_,rfl⟩
 have hCl:C.length=3:=by rw[←hC];rfl
 unfold RetCor
 rw[hC] at HTd ⊢
 have HCl:=Lib.hid hCl
 obtain⟨TI,hTI⟩:∃ TI,toI T=TI:=⟨_,rfl⟩
 rw[hTI] at HTd HL HBo
 obtain⟨b,rfl,hb⟩:=hp
 clear h hI hT hTl hCl hC hb hTI
 go_enter Tryz.func17,Tryz.ntmps17
 go_wp2_with fail
 refine (HT.out _ _ (Ev.refl HI.out)).mono ?_
 rintro e w1 ⟨rfl,R1,he1⟩
 have HE1:=Lib.hid he1
 clear he1
 go_wp2_with fail
 refine (HRo.out _ _ HE1.out).mono ?_
 rintro e w2 ⟨rfl,rfl⟩
 go_wp2_with fail
 refine (HBo.out _ _ HE1.out).mono ?_
 rintro e w6 ⟨v6,rfl,he6,ho6⟩
 obtain⟨a6,c6,rfl,_⟩:=ho6.ints.open
 rw[HL.out] at ho6 ⊢
 have HE6:=Lib.hid (HE1.out.trans he6)
 have HO6:=Lib.hid ho6
 have HZ6:=Lib.hid he6.size
 clear he6 ho6
 go_wp2_with fail
 have hn0:=HI.out
 go_loopg [4,19] 3 (fun g v4 v19 wr=>∃ (i:Nat) (a7:Option Addr) (m7 c7:Nat) (R7:Reg),i≤3∧3-i≤g∧v4=.slice a7 m7 c7∧v19=.int .i64 (i:Int)∧Ev R w R7 wr∧OwnI R7 w1.heap.size 3 wr (.slice a6 3 c6) TI∧(∀ k,(Value.slice a7 m7 c7).ownBlock=some k→(Value.slice a6 3 c6).ownBlock≠some k)∧OwnI R7 w.heap.size 3 wr (.slice a7 m7 c7) (C.take i))
 case atStart=>exact⟨0,none,0,0,R1,by omega,by omega,rfl,rfl,HE6.out,HO6.out,fun k h=>by simp[Value.ownBlock] at h,OwnI.nil _ _ _ _⟩
 case round=>
  obtain⟨i,a7,m7,c7,R7,hi,hg,rfl,rfl,he,hf,hdis,ho⟩:=hrel
  have HDs:=Lib.hid hdis
  have HE:=Lib.hid he
  have HO:=Lib.hid ho
  have HF:=Lib.hid hf
  clear he ho hf hdis
  by_cases hil:i<3
  ·obtain⟨gb,rfl,_,_,hc,_⟩:=HF.out.headAt HL.out (i:=i) hil
   obtain⟨d,hdT,hds,hdC⟩:=HTd.out i hil
   rw[hdT] at hc
   have HV1:=Lib.hid (HVx.out _ _ HE.out d hds)
   obtain⟨v,hv⟩:∃ v,nth (namesL s) d=v:=⟨_,rfl⟩
   rw[hv] at HV1 hdC
   have HS:=Lib.hid (show C.take (i+1)=C.take i ++ [v] by rw[List.take_add_one,hdC];rfl)
   clear hdT hdC hv
   go_wp2_with fail
   refine HV1.out.mono ?_
   rintro e w8 ⟨rfl,R8,he8⟩
   have HLn:Hid ((C.take i).length≤8388607):=Lib.hid (by rw[List.length_take];omega)
   have HE8:=Lib.hid ((HE.out.trans he8).alloc (.cells #[.int .i64 v] 3))
   have HO8:=Lib.hid ((HO.out.ev he8).alloc (.cells #[.int .i64 v] 3))
   have HF8:=Lib.hid ((HF.out.ev he8).alloc (.cells #[.int .i64 v] 3))
   have hz8:w.heap.size≤w8.heap.size:=(HE.out.trans he8).size
   clear he8
   go_wp2_with (at_builtin;refine wpList_app_int (R:=R8) (B:=w.heap.size) rfl _ _ rfl HO8.out rfl ⟨w8.heap.size,0,none⟩ 1 v rfl ?h1a ?h1b ?h1c ?h1d ?_)
   case h1a=>simp
   case h1b=>exact HLn.out
   case h1c=>first|omega|(simp;omega)
   case h1d=>exact fun q hq=>HE8.out.inv.none_of_ge (by simp at hq ⊢;omega)
   intro v' w9 ho9 hg9 hs9
   obtain⟨a9,c9,rfl,_⟩:=ho9.ints.open
   have HE9:=Lib.hid (HE8.out.app HO8.out (Nat.le_refl _) hg9)
   have HF9:=Lib.hid (HF8.out.kept hg9 (dis_ne HDs.out))
   have HO9:=Lib.hid ho9
   have hdis9:∀ k,(Value.slice a9 (C.take i ++ [v]).length c9).ownBlock=some k→(Value.slice (some ⟨gb,0,none⟩) 3 c6).ownBlock≠some k:=fun k h1 h2=>by
    rcases hs9 k h1 with h|h
    ·exact HDs.out k h h2
    ·have:=(HF8.out.lt k h2).2
     simp at this h
     omega
   have HD9:=Lib.hid hdis9
   clear ho9 hg9 hs9 hdis9
   go_wp2_with fail
   go_roundg (3-(i+1))
   case measure=>omega
   case rel=>exact⟨i+1,_,_,_,R8,by omega,by omega,rfl,by go_num,HE9.out,HF9.out,HD9.out,by rw[HS.out];exact HO9.out⟩
  ·obtain rfl:i=3:=by omega
   have hCC:C.take 3=C:=by rw[←HCl.out];exact List.take_length
   have HO':=Lib.hid (by have:=HO.out;rwa [hCC] at this:OwnI R7 w.heap.size 3 wr (.slice a7 m7 c7) C)
   go_wp2_with fail
   go_ret2
   exact⟨_,R7,rfl,HE.out,HO'.out⟩
end
section
set_option linter.unusedVariables false
set_option linter.unusedSectionVars false
theorem adjs_head {c d:Nat} {P Q:List Nat} {p q:Nat}:∃ y Z,Q ++ [d]=y :: Z∧Adjs c ((P ++ p :: q :: Q) ++ [d]) p q∧Adjs c ((P ++ p :: q :: Q) ++ [d]) q y:=by
 have e:(P ++ p :: q :: Q) ++ [d]=P ++ (p :: q :: (Q ++ [d])):=by simp
 rw[e]
 cases Q with
 | nil=>exact⟨d,[],rfl,adjs_app.2 (.inr (by simp[Adjs])),adjs_app.2 (.inr (by simp[Adjs]))⟩
 | cons x t=>exact⟨x,t ++ [d],rfl,adjs_app.2 (.inr (by simp[Adjs])),adjs_app.2 (.inr (by simp[Adjs]))⟩
def ParR (s:List Nat) (r:Nat) (pl:Int→Nat) (c a b:Int):Prop:=∃ d,d<s.length∧nth (namesL s) d=a∧colZ s r pl d=c∧nth (namesL s) (d ^^^ 1)=b
inductive OnP (s:List Nat) (r:Nat) (pl:Int→Nat) (c:Int):Int→Int→Prop
 | here (a:Int):OnP s r pl c a a
 | on {a b u:Int}:ParR s r pl c a b→OnP s r pl c b u→OnP s r pl c a u
section
variable {s : List Nat} (h : TriS s) {r : Nat} (hr : r < s.length) {pl : Int → Nat} (hp : Place (orderL s r) pl)
include h hr hp
theorem ParR.uniq {c a b b':Int} (h0:0≤c) (h2:c≤2) (k:ParR s r pl c a b) (k':ParR s r pl c a b'):b=b':=by
 obtain⟨d,d1,d2,d3,d4⟩:=k
 obtain⟨e,e1,e2,e3,e4⟩:=k'
 by_cases hc:cornZ s r d=true
 ·rw[col_corner h hr hp d1 hc] at d3;omega
 ·obtain⟨y,_,_,_,y4⟩:=col_unique h hr hp d1 (by simpa using hc) h0 h2
  rw[←d4,←e4,y4 d d1 rfl d3,y4 e e1 (by rw[e2,d2]) e3]
theorem ParR.down {c a b:Int} (hc:c=1∨c=2) (k:ParR s r pl c a b):pl b<pl a:=by
 obtain⟨d,d1,d2,d3,d4⟩:=k
 have:=(col_goes h hr hp d1).1 (by rw[d3];exact hc)
 rw[←d2,←d4]
 exact this
theorem ParR.up {a b:Int} (k:ParR s r pl 0 a b):pl a<pl b:=by
 obtain⟨d,d1,d2,d3,d4⟩:=k
 have:=(col_goes h hr hp d1).2 d3
 rw[←d2,←d4]
 exact this
theorem OnP.down {c:Int} (hc:c=1∨c=2) {a u:Int} (k:OnP s r pl c a u):u=a∨pl u<pl a:=by
 induction k with
 | here=>exact .inl rfl
 | on k1 _ ih=>
  have:=ParR.down h hr hp hc k1
  rcases ih with e|e
  ·rw[e];exact .inr this
  ·exact .inr (by omega)
theorem OnP.up {a u:Int} (k:OnP s r pl 0 a u):u=a∨pl a<pl u:=by
 induction k with
 | here=>exact .inl rfl
 | on k1 _ ih=>
  have:=ParR.up h hr hp k1
  rcases ih with e|e
  ·rw[e];exact .inr this
  ·exact .inr (by omega)
theorem OnP.next {c a b u:Int} (h0:0≤c) (h2:c≤2) (k:OnP s r pl c a u) (kb:ParR s r pl c a b):u=a∨OnP s r pl c b u:=by
 cases k with
 | here=>exact .inl rfl
 | on k1 k2=>rw[ParR.uniq h hr hp h0 h2 kb k1];exact .inr k2
theorem OnP.stop {c:Int} (h0:0≤c) {x:Nat} (hc:cornZ s r x=true) {u:Int} (k:OnP s r pl c (nth (namesL s) x) u):u=nth (namesL s) x:=by
 cases k with
 | here=>rfl
 | on k1 _=>
  obtain⟨d,d1,d2,d3,_⟩:=k1
  have:=col_corner h hr hp d1 (by unfold cornZ at hc ⊢;rw[d2];exact hc)
  omega
theorem ends_of {A:List Nat} {out:List Int} (hF:ShRun s r A out) (h1:A.length<2) (hP:Place (nth (namesL s) r :: nth (namesL s) (at' (phiL s) r) :: out.reverse) pl) {t p q:Nat} (ht:t<out.length) (k1:p<s.length) (k2:q<s.length) (k3:nth out t=nth (namesL s) q) (k4:nth (namesL s) (p ^^^ 1)=nth (namesL s) q) (k5:q≠p ^^^ 1)
  (ko:OutJ s (goneP s (out.take t)) p q) (ki:InnJ s (goneP s (out.take t)) p q) (k6:¬ goneP s (out.take t) p) (k7:¬ goneP s (out.take t) (q ^^^ 1)) (hc:cornZ s r q=false):colZ s r pl (p ^^^ 1)=1∧colZ s r pl q=2:=by
 obtain⟨j,j0,j1,j2⟩:=ko
 obtain⟨J,J1,J2,J3⟩:=ki
 have ah:∀ x,x<s.length→nth (namesL s) x=nth out t→(Ahd s pl x↔¬ goneP s (out.take t) (x ^^^ 1)):=fun x hx e=>pl_ahead h hr hF h1 hP ht hx e
 have it:=fun (x:Nat) (hx:x<s.length) (m:Nat)=>it_in h hr hp hx m
 have hpm:=xor_one_lt h.even k1
 have uv:nth (namesL s) (p ^^^ 1)=nth out t:=by rw[k4,k3]
 have aq:Ahd s pl q:=(ah q k2 k3.symm).2 k7
 have au:Ahd s pl (p ^^^ 1):=(ah _ hpm uv).2 (by rw[xor_one_one];exact k6)
 have hk:RunAt s pl (nth (namesL s) q) q (p ^^^ 1) j J:=by
  refine⟨k2,hpm,rfl,k4,k5,j0,j1,J1,J2,fun l l0 l1 k=>?_,fun l l1=>?_⟩
  ·have:=it q k2 l
   exact ((ah _ this.1 (by rw[this.2,k3])).1 k) (j2 l l0 l1)
  ·have tt:=it _ hpm l
   rcases Nat.eq_zero_or_pos l with e|l0
   ·subst e;exact au
   ·rcases Nat.lt_or_ge l J with l2|l2
    ·exact (ah _ tt.1 (by rw[tt.2,uv])).2 (J3 l l0 l2)
    ·obtain rfl:l=J:=by omega
     rw[J1];exact aq
 obtain⟨q',u',j',J',m',K⟩:=six_at h hr hp k2 hc
 have m0:=K.m0
 have mj:=K.mj
 have x0:=it_in h hr hp K.run.ql 1
 have j1':1<j:=by
  rcases hk.cases h x0.1 (x0.2.trans K.run.qv) with ⟨l,l0,l1,_⟩|⟨l,l1,l2⟩
  ·omega
  ·have n:=K.run.no 1 (by omega) (by omega)
   rw[l2] at n
   exact absurd (hk.yes l l1) n
 have iy:=it q k2 (j-1)
 have ey:at' s (itf (at' s) (j-1) q)=p ^^^ 1:=by rw[←itf_succ (at' s),show j-1+1=j by omega];exact j1
 have b1:=K.run.begin h iy.1 iy.2 (hk.no (j-1) (by omega) (by omega)) (by rw[ey];exact au)
 have b2:=K.run.last h k2 rfl aq (hk.no 1 (by omega) j1')
 rw[ey] at b1
 rw[b1,b2]
 exact⟨K.o1.1,K.o2.1⟩
def Apart (s:List Nat) (r:Nat) (pl:Int→Nat) (L:List Int):Prop:=L.Pairwise fun a b=>∀ u,OnP s r pl 1 a u→OnP s r pl 2 b u→False
def Parts3 (s:List Nat) (r:Nat) (pl:Int→Nat) (O:List Int) (n:Nat):Prop:=∀ t,n≤t→0<t→t<O.length→∀ u,OnP s r pl 1 (nth O t) u→OnP s r pl 2 (nth O t) u→u=nth O t
theorem apart_back {A0:List Nat} {O:List Int} (hF:ShRun s r A0 O) (h1:A0.length<2) (hO:orderL s r=nth (namesL s) r :: nth (namesL s) (at' (phiL s) r) :: O.reverse):∀ (f:Nat) (A:List Nat) (out:List Int),ShRun s r A out→(sizesL s).length≤out.length+f+2→ordGo s (r ^^^ 1) f A out=O →
  (out≠[]→Apart s r pl ((A ++ [r ^^^ 1]).map fun x=>nth (namesL s) x))∧Parts3 s r pl O out.length:=by
 have hP:Place (nth (namesL s) r :: nth (namesL s) (at' (phiL s) r) :: O.reverse) pl:=by rw[←hO];exact hp
 have base:∀ (A:List Nat) (out:List Int),ShRun s r A out→A.length<2→O=out→(out≠[]→Apart s r pl ((A ++ [r ^^^ 1]).map fun x=>nth (namesL s) x))∧Parts3 s r pl O out.length:=by
  intro A out hR hA e
  refine⟨fun _=>?_,fun t t1 t2 t3=>by rw[e] at t3;omega⟩
  obtain⟨a,t,e1,e2⟩:=hR.head
  have:t=[]:=by
   rw[e1,List.length_cons] at hA
   exact List.eq_nil_of_length_eq_zero (by omega)
  subst this
  subst e1
  unfold Apart
  simp only[List.cons_append,List.nil_append,List.map_cons,List.map_nil,List.pairwise_cons,List.mem_cons,List.not_mem_nil,or_false,forall_eq,false_implies,implies_true,and_true,List.Pairwise.nil]
  intro u k1 k2
  have c1:cornZ s r r=true:=by unfold cornZ;simp
  have c2:cornZ s r (at' (phiL s) r)=true:=by unfold cornZ;simp
  rw[e2] at k1
  rw[hR.last] at k2
  have:=OnP.stop h hr hp (by decide) c1 k1
  have:=OnP.stop h hr hp (by decide) c2 k2
  have:=h.loop r hr
  rw[names_phi h.perm h.even hr] at *
  simp_all
 intro f
 induction f with
 | zero=>
  intro A out hR hf hg
  rcases Nat.lt_or_ge A.length 2 with k|k
  ·exact base A out hR k hg.symm
  ·have:=(hR.step h hr (hR.first h hr k).1).1.len h hr
   simp at this
   omega
 | succ f ih=>
  intro A out hR hf hg
  unfold ordGo at hg
  rcases Nat.lt_or_ge A.length 2 with k|k
  ·rw[if_pos k] at hg
   exact base A out hR k hg.symm
  ·rw[if_neg (by omega)] at hg
   obtain⟨i,hi⟩:∃ i,firstI s (r ^^^ 1) A=i:=⟨_,rfl⟩
   have hfi:=(hR.first h hr k).1
   rw[hi] at hg hfi
   obtain⟨hN,J0,J1,J2⟩:=hR.step h hr hfi
   obtain⟨ap,pt⟩:=ih _ _ hN (by simp;omega) hg
   have ap:=ap (by simp)
   obtain⟨i1,i2,_⟩:=hfi
   have hA:=split_at2 i1 i2
   obtain⟨p,hpe⟩:∃ p,A.getD (i-1) 0=p:=⟨_,rfl⟩
   obtain⟨q,hq⟩:∃ q,A.getD i 0=q:=⟨_,rfl⟩
   obtain⟨J,hJ⟩:∃ J,arcN s p q=J:=⟨_,rfl⟩
   have hC:cutA s A i=A.take (i-1) ++ (List.range J).map (midZ s p) ++ A.drop (i+1):=by unfold cutA;rw[hpe,hq,hJ]
   rw[hpe,hq] at hA J0 J1 J2
   rw[hJ] at J0 J1 J2
   rw[hq] at hg hN pt
   rw[hC] at ap
   obtain⟨tl,htl⟩:=ordGo_pre s (r ^^^ 1) f (cutA s A i) (out ++ [nth (namesL s) q])
   rw[hg] at htl
   have hto:out.length<O.length:=by rw[htl];simp
   have hOt:nth O out.length=nth (namesL s) q:=by rw[htl];unfold nth;simp
   have hOk:O.take out.length=out:=by rw[htl];simp
   have hL:A ++ [r ^^^ 1]=(A.take (i-1) ++ p :: q :: A.drop (i+1)) ++ [r ^^^ 1]:=by rw[←hA]
   obtain⟨y,Z,hY,a1,a3⟩:=adjs_head (c:=r ^^^ 1) (d:=r ^^^ 1) (P:=A.take (i-1)) (Q:=A.drop (i+1)) (p:=p) (q:=q)
   rw[←hL] at a1 a3
   have n1:=hR.shl.next h a1
   have n2:=hR.shl.next h a3
   have pA:p∈A ++ [r ^^^ 1]:=by rw[hL];simp
   have qA:q∈A ++ [r ^^^ 1]:=by rw[hL];simp
   obtain⟨plt,pout⟩:=hR.mem h hr pA
   obtain⟨qlt,qout⟩:=hR.mem h hr qA
   obtain⟨ylt,yout⟩:=hR.mem h hr (adjs_mem a3).2
   have hall:=(hF.all h hr h1).1
   have hpv:=pl_out h hr hF h1 hP hto
   rw[hOt] at hpv
   have live:∀ x,x∈A ++ [r ^^^ 1]→nth (namesL s) x≠nth (namesL s) q→pl (nth (namesL s) x)<pl (nth (namesL s) q):=fun x hx hne=>by
    obtain⟨xlt,xout⟩:=hR.mem h hr hx
    rw[hpv]
    rcases pl_cases h hr hF h1 hP xlt with e|e|⟨u,hu,e⟩
    ·rw[e,pl_first h hr hF h1 hP];omega
    ·rw[e,pl_second h hr hF h1 hP];omega
    ·rw[e,pl_out h hr hF h1 hP hu]
     have:¬ u<out.length:=fun w=>xout (by rw[←hOk,e];exact (take_mem h hr hF h1 hP hto hu).2 w)
     have:u≠out.length:=fun w=>hne (by rw[e,w,hOt])
     omega
   obtain⟨nm,hnm⟩:∃ nm:Nat→Int,(fun x=>nth (namesL s) x)=nm:=⟨_,rfl⟩
   have hnx:∀ x,nth (namesL s) x=nm x:=fun x=>congrFun hnm x
   have hnd:=hR.shl.one
   rw[hnm] at hnd ap ⊢
   have hm0:nm (midZ s p 0)=nm p:=by
    have t1:=(h.tri (xor_one_lt h.even plt)).1
    have t2:=names_turn h.perm (xor_one_lt h.even (h.phl (h.perm.lt (xor_one_lt h.even plt))))
    rw[t1,xor_one_one] at t2
    rw[←hnx,←hnx]
    exact t2.symm
   obtain⟨J',rfl⟩:∃ J',J=J'+1:=⟨J-1,by omega⟩
   obtain⟨M,hM⟩:∃ M,((List.range J').map fun k=>nm (midZ s p (k+1)))=M:=⟨_,rfl⟩
   obtain⟨X,hX⟩:∃ X,(A.take (i-1)).map nm=X:=⟨_,rfl⟩
   obtain⟨Y,hYn⟩:∃ Y,Z.map nm=Y:=⟨_,rfl⟩
   have eL:(A ++ [r ^^^ 1]).map nm=X ++ nm p :: nm q :: nm y :: Y:=by
    rw[hL,List.append_assoc,List.map_append,hX,List.cons_append,List.cons_append,hY]
    simp[hYn]
   have eC:(A.take (i-1) ++ (List.range (J'+1)).map (midZ s p) ++ A.drop (i+1) ++ [r ^^^ 1]).map nm=X ++ nm p :: (M ++ nm y :: Y):=by
    rw[List.append_assoc,hY,List.map_append,List.map_append,hX,List.range_succ_eq_map]
    simp only[List.map_cons,List.map_map,hYn,hm0]
    rw[←hM]
    simp[Function.comp_def]
   rw[eL] at hnd ⊢
   rw[eC] at ap
   have memL:∀ x,x∈X ++ nm p :: nm q :: nm y :: Y→x≠nm q→pl x<pl (nm q):=fun x hx hne=>by
    rw[←eL] at hx
    obtain⟨d,d1,rfl⟩:=List.mem_map.1 hx
    rw[←hnx,←hnx]
    exact live d d1 (by rw[hnx,hnx];exact hne)
   obtain⟨ndX,ndR,ndXR⟩:=List.nodup_append.1 hnd
   obtain⟨np,ndR⟩:=List.nodup_cons.1 ndR
   obtain⟨nq,ndR⟩:=List.nodup_cons.1 ndR
   have lX:∀ x,x∈X→pl x<pl (nm q):=fun x hx=>memL x (by simp[hx]) (ndXR x hx _ (by simp))
   have lp:pl (nm p)<pl (nm q):=memL _ (by simp) (fun e=>np (by rw[e];simp))
   have lY:∀ x,x∈nm y :: Y→pl x<pl (nm q):=fun x hx=>memL x (by rw[List.mem_append];exact .inr (List.mem_cons_of_mem _ (List.mem_cons_of_mem _ hx))) (fun e=>nq (by rw[←e];exact hx))
   obtain⟨aX,aR,aXR⟩:=List.pairwise_append.1 ap
   obtain⟨aP,aR⟩:=List.pairwise_cons.1 aR
   obtain⟨_,aY,_⟩:=List.pairwise_append.1 aR
   have key:0<out.length→ParR s r pl 1 (nm q) (nm p)∧ParR s r pl 2 (nm q) (nm y):=fun h0=>by
    have hc:cornZ s r q=false:=by
     cases e:cornZ s r q
     ·rfl
     ·have:=(corn_iff h hr hp qlt).1 e
      unfold plD at this
      rw[hpv] at this
      omega
    have:=ends_of h hr hp hF h1 hP hto plt qlt hOt n1 (fun e=>J2 0 (by omega) e.symm) (by rw[hOk];exact hR.shl.outer _ _ a1) (by rw[hOk];exact hR.shl.inner _ _ a1) (fun k=>pout (by rw[hOk] at k;exact k.2)) (fun k=>yout (by rw[hOk] at k;rw[←n2];exact k.2)) hc
    refine⟨⟨p ^^^ 1,xor_one_lt h.even plt,by rw[n1,hnx],this.1,by rw[xor_one_one,hnx]⟩,⟨q,qlt,hnx q,this.2,by rw[n2,hnx]⟩⟩
   constructor
   ·intro hne
    obtain⟨K1,K2⟩:=key (List.length_pos_iff.2 hne)
    have xv:∀ x,pl x<pl (nm q)→(∀ u,OnP s r pl 1 x u→OnP s r pl 2 (nm y) u→False)→∀ u,OnP s r pl 1 x u→OnP s r pl 2 (nm q) u→False:=fun x lx hxb u k1 k2=>by
     rcases OnP.next h hr hp (by decide) (by decide) k2 K2 with e|e
     ·subst e
      rcases OnP.down h hr hp (.inl rfl) k1 with e|e
      ·rw[e] at lx;omega
      ·omega
     ·exact hxb u k1 e
    have vy:∀ x,pl x<pl (nm q)→(∀ u,OnP s r pl 1 (nm p) u→OnP s r pl 2 x u→False)→∀ u,OnP s r pl 1 (nm q) u→OnP s r pl 2 x u→False:=fun x lx hxb u k1 k2=>by
     rcases OnP.next h hr hp (by decide) (by decide) k1 K1 with e|e
     ·subst e
      rcases OnP.down h hr hp (.inr rfl) k2 with e|e
      ·rw[e] at lx;omega
      ·omega
     ·exact hxb u e k2
    unfold Apart
    refine List.pairwise_append.2 ⟨aX,List.pairwise_cons.2 ⟨fun x hx=>?_,List.pairwise_cons.2 ⟨fun x hx=>vy x (lY x hx) (aP x (List.mem_append_right _ hx)),aY⟩⟩,fun x hx z hz=>?_⟩
    ·rcases List.mem_cons.1 hx with e|e
     ·rw[e];exact xv _ lp (aP _ (by simp))
     ·exact aP x (List.mem_append_right _ e)
    ·rcases List.mem_cons.1 hz with e|e
     ·rw[e];exact aXR x hx _ (by simp)
     ·rcases List.mem_cons.1 e with e|e
      ·rw[e];exact xv x (lX x hx) (aXR x hx _ (by simp))
      ·exact aXR x hx z (List.mem_cons_of_mem _ (List.mem_append_right _ e))
   ·intro t t1 t2 t3 u k1 k2
    rcases Nat.lt_or_ge out.length t with w|w
    ·exact pt t (by simp;omega) t2 t3 u k1 k2
    ·have et:t=out.length:=by omega
     subst et
     rw[hOt,hnx] at k1 k2 ⊢
     obtain⟨K1,K2⟩:=key t2
     rcases OnP.next h hr hp (by decide) (by decide) k1 K1 with e|e
     ·exact e
     ·rcases OnP.next h hr hp (by decide) (by decide) k2 K2 with e2|e2
      ·exact e2
      ·exact (aP (nm y) (by simp) u e e2).elim
theorem paths_apart {x:Nat} (hx:x<s.length) {c c':Int} (h0:0≤c) (h1:c<c') (h2:c'≤2) {u:Int} (k1:OnP s r pl c (nth (namesL s) x) u) (k2:OnP s r pl c' (nth (namesL s) x) u):u=nth (namesL s) x:=by
 by_cases hc:cornZ s r x=true
 ·exact OnP.stop h hr hp h0 hc k1
 rcases (by omega:c=0∨(c=1∧c'=2)) with e|⟨e,e'⟩
 ·subst e
  rcases OnP.up h hr hp k1 with e|e
  ·exact e
  ·rcases OnP.down h hr hp (by omega) k2 with e2|e2
   ·exact e2
   ·omega
 ·subst e e'
  obtain⟨A0,O,hF,hA,hO⟩:=order_run h hr
  have hle:(sizesL s).length≤s.length:=by
   rw[←sizesGo_all,sizesGo_length h.perm _ (Nat.le_refl _)]
   exact namesGo_count s _
  have hO2:ordGo s (r ^^^ 1) s.length (begA s r) []=O:=by
   have e:orderL s r=nth (namesL s) r :: nth (namesL s) (at' (phiL s) r) :: (ordGo s (r ^^^ 1) s.length (begA s r) []).reverse:=rfl
   rw[hO,List.cons.injEq,List.cons.injEq] at e
   exact (List.reverse_inj.1 e.2.2).symm
  have P3:=(apart_back h hr hp hF hA hO s.length (begA s r) [] (ShRun.start h hr) (by simp;omega) hO2).2
  have hP:Place (nth (namesL s) r :: nth (namesL s) (at' (phiL s) r) :: O.reverse) pl:=by rw[←hO];exact hp
  have hall:=(hF.all h hr hA).1
  have nc:¬ (plD s pl x<2∨plD s pl x=(sizesL s).length-1):=fun k=>hc ((corn_iff h hr hp hx).2 k)
  unfold plD at nc
  rcases pl_cases h hr hF hA hP hx with e|e|⟨t,ht,e⟩
  ·rw[e,pl_first h hr hF hA hP] at nc;omega
  ·rw[e,pl_second h hr hF hA hP] at nc;omega
  ·rw[e,pl_out h hr hF hA hP ht] at nc
   rw[e] at k1 k2 ⊢
   exact P3 t (by simp) (by omega) ht u k1 k2
end
end
section
set_option linter.unusedVariables false
set_option linter.unusedSectionVars false
def lateX (s:List Nat) (pl:Int→Nat) (x:Nat):Nat:=max (plD s pl x) (farP s pl x)
def OutIs (s:List Nat) (r:Nat) (pl:Int→Nat) (O:List Int) (P:Nat→Prop):Prop:=O.length=s.length∧∀ x,x<s.length→(P x→nth O x=colZ s r pl x)∧(¬ P x→nth O x=-1)
def paintL (s:List Nat) (r:Nat) (O:List Int) (x:Nat) (c:Int):List Int:=if outZ s r x then O else O.set x c
structure EndsAt (s:List Nat) (r:Nat) (pl:Int→Nat) (i u q J:Nat):Prop where
 ul:u<s.length
 ql:q<s.length
 uv:nth (namesL s) u=nth (orderL s r) i
 qv:nth (namesL s) q=nth (orderL s r) i
 J0:0<J
 uq:itf (at' s) J u=q
 one:∀ l,l<J→itf (at' s) l u≠q
 all:∀ y,y<s.length→nth (namesL s) y=nth (orderL s r) i→Ahd s pl y→∃ l,l≤J∧y=itf (at' s) l u
 ahd:∀ l,l≤J→Ahd s pl (itf (at' s) l u)
 cu:outZ s r u=false→colZ s r pl u=1
 cq:outZ s r q=false→colZ s r pl q=2
 mu:colZ s r pl (u ^^^ 1)=-1
 mq:colZ s r pl (q ^^^ 1)=-1
 ci:∀ l,0<l→l<J→colZ s r pl (itf (at' s) l u)=-1∧(outZ s r (itf (at' s) l u)=false→colZ s r pl (itf (at' s) l u ^^^ 1)=0)
section
variable {s : List Nat} (h : TriS s) {r : Nat} (hr : r < s.length) {pl : Int → Nat} (hp : Place (orderL s r) pl)
include h hr hp
theorem ends_at {i:Nat} (h2:2≤i) (hi:i<(sizesL s).length):∃ u q J,EndsAt s r pl i u q J ∧
  (nth (orderL s r) i=nth (namesL s) (at' (phiL s) (at' (phiL s) r))→u=at' (phiL s) (at' (phiL s) r)∧q=at' (phiL s) r ^^^ 1) ∧
  (nth (orderL s r) i≠nth (namesL s) (at' (phiL s) (at' (phiL s) r))→∃ j,RunAt s pl (nth (orderL s r) i) q u j J∧1<j):=by
 have l1:=h.phl hr
 have l2:=h.phl l1
 have hpi:=plc h hr hp hi
 by_cases hc:nth (orderL s r) i=nth (namesL s) (at' (phiL s) (at' (phiL s) r))
 ·obtain⟨u,hu⟩:∃ u,at' (phiL s) (at' (phiL s) r)=u:=⟨_,rfl⟩
  rw[hu] at hc l2 ⊢
  obtain⟨m,m0,m1,mi,mc,_⟩:=orb_full h l2
  have io:=it_in h hr hp l2
  have qm:=xor_one_lt h.even l1
  have elast:itf (at' s) (m-1) u=at' (phiL s) r ^^^ 1:=by
   have e1:at' s (itf (at' s) (m-1) u)=u:=by rw[←itf_succ (at' s),show m-1+1=m by omega];exact m1
   have e2:at' s (at' (phiL s) r ^^^ 1)=u:=by rw[←h.phi_at l1];exact hu
   exact h.perm.pm.inj (io _).1 qm (by rw[e1,e2])
  have m2:1<m:=by
   rcases Nat.lt_or_ge 1 m with q|q
   ·exact q
   ·exfalso
    have:m=1:=by omega
    rw[this] at m1
    exact turn_ne h l2 m1
  have ecn:cornZ s r u=true:=by unfold cornZ;rw[hu];simp
  have cr:cornZ s r r=true:=by unfold cornZ;simp
  have c1:cornZ s r (at' (phiL s) r)=true:=by unfold cornZ;simp
  have ou:outZ s r u=true:=by
   have e:nth (namesL s) (u ^^^ 1)=nth (namesL s) r:=by rw[←names_phi h.perm h.even l2,←hu,(h.three r hr).1]
   unfold outZ
   rw[ecn,Bool.true_and]
   unfold cornZ at cr ⊢
   rw[e];exact cr
  have oq:outZ s r (at' (phiL s) r ^^^ 1)=true:=by
   unfold outZ
   rw[xor_one_one,c1,Bool.and_true]
   have e:nth (namesL s) (at' (phiL s) r ^^^ 1)=nth (namesL s) u:=by rw[←names_phi h.perm h.even l1,hu]
   unfold cornZ at ecn ⊢
   rw[e];exact ecn
  have p2:=plc_last h hr hp
  rw[hu] at p2
  have all:∀ y,y<s.length→nth (namesL s) y=nth (namesL s) u→Ahd s pl y:=fun y hy k=>by
   have k1:=far_own h hr hp hy
   have k2:=far_lt h hr hp hy
   have k3:plD s pl y=(sizesL s).length-1:=by unfold plD;rw[k];exact p2
   show farP s pl y<plD s pl y
   omega
  refine⟨u,at' (phiL s) r ^^^ 1,m-1,⟨l2,qm,hc.symm,?_,by omega,elast,fun l hl e=>?_,fun y hy e _=>?_,fun l hl=>all _ (io l).1 (io l).2,fun o=>?_,fun o=>?_,?_,?_,fun l l0 l1'=>?_⟩,fun _=>⟨rfl,rfl⟩,fun n=>absurd hc n⟩
  ·rw[hc,←names_phi h.perm h.even l1,hu]
  ·have:=mi l (m-1) (by omega) (by omega) (by rw[e,elast]);omega
  ·obtain⟨l,l1,l2⟩:=mc y hy (by rw[e,hc])
   exact⟨l,by omega,l2⟩
  ·rw[ou] at o;cases o
  ·rw[oq] at o;cases o
  ·exact col_outer h hr hp (by rw[outZ_mate,ou])
  ·exact col_outer h hr hp (by rw[outZ_mate,oq])
  ·by_cases o:outZ s r (itf (at' s) l u)=true
   ·exact⟨col_outer h hr hp o,fun k=>by rw[o] at k;cases k⟩
   ·have k:=corner_zero h hr hp (io l).1 (by rw[(io l).2,hu]) (by simpa using o)
    exact⟨k.1,fun _=>k.2⟩
 ·obtain⟨x,hx,ex⟩:∃ x,x<s.length∧nth (namesL s) x=nth (orderL s r) i:=by
   have hm:=(order_mem h hr _).1 (nth_mem (l:=orderL s r) (i:=i) (by rw[order_len h hr];exact hi))
   obtain⟨x,hx,e⟩:=h.named (v:=(nth (orderL s r) i).toNat) (by omega)
   exact⟨x,hx,by omega⟩
  have ncr:cornZ s r x=false:=by
   cases e:cornZ s r x
   ·rfl
   ·have:=(corn_iff h hr hp hx).1 e
    have e2:plD s pl x=i:=by unfold plD;rw[ex];exact hpi
    have e3:i=(sizesL s).length-1:=by omega
    exact absurd (by rw[e3];exact order_last h hr) hc
  obtain⟨q,u,j,J,m,k⟩:=six_at h hr hp hx ncr
  rw[ex] at k
  have outv:∀ y,nth (namesL s) y=nth (orderL s r) i→outZ s r y=false:=fun y e=>by
   unfold outZ
   have:cornZ s r y=false:=by unfold cornZ at ncr ⊢;rw[e,←ex];exact ncr
   rw[this];rfl
  have mj:=k.mj
  have m0:=k.m0
  refine⟨u,q,J,⟨k.run.ul,k.run.ql,k.run.uv,k.run.qv,?_,k.run.uq,k.run.one,fun y hy e a=>?_,k.run.yes,fun _=>k.o1.1,fun _=>k.o2.1,k.o1.2,k.o2.2,fun l l0 l1=>⟨(k.i0 l l0 l1).1,fun _=>(k.i0 l l0 l1).2⟩⟩,fun e=>absurd e hc,fun _=>⟨j,k.run,by omega⟩⟩
  ·rcases Nat.eq_zero_or_pos J with e|e
   ·have:=k.run.uq
    rw[e] at this
    exact absurd this.symm k.run.ne
   ·exact e
  ·rcases k.run.cases h hy e with ⟨l,l0,l1,l2⟩|⟨l,l1,l2⟩
   ·exact absurd (by rw[←l2];exact a) (k.run.no l l0 l1)
   ·exact⟨l,l1,l2⟩
theorem OutIs.paint {O:List Int} {P:Nat→Prop} (ho:OutIs s r pl O P) {x:Nat} (hx:x<s.length) {c:Int} (hc:outZ s r x=false→c=colZ s r pl x):OutIs s r pl (paintL s r O x c) (fun y=>P y∨y=x):=by
 unfold paintL
 cases e:outZ s r x
 ·rw[hc e]
  refine⟨by simpa using ho.1,fun y hy=>?_⟩
  rw[show (if false=true then O else O.set x (colZ s r pl x))=O.set x (colZ s r pl x) from rfl,nth_set (by rw[ho.1];exact hx)]
  by_cases q:x=y
  ·rw[if_pos q];subst q;exact⟨fun _=>rfl,fun n=>absurd (.inr rfl) n⟩
  ·rw[if_neg q]
   exact⟨fun k=>(ho.2 y hy).1 (by rcases k with k|k;exact k;exact absurd k.symm q),fun n=>(ho.2 y hy).2 fun k=>n (.inl k)⟩
 ·refine⟨ho.1,fun y hy=>?_⟩
  show (_→nth O y=_)∧(_→nth O y=_)
  by_cases q:P y
  ·exact⟨fun _=>(ho.2 y hy).1 q,fun n=>absurd (.inl q) n⟩
  ·refine⟨fun k=>?_,fun n=>(ho.2 y hy).2 q⟩
   rcases k with k|k
   ·exact absurd k q
   ·rw[(ho.2 y hy).2 q,k,col_outer h hr hp e]
theorem OutIs.to {O:List Int} {P Q:Nat→Prop} (ho:OutIs s r pl O P) (h1:∀ y,y<s.length→P y→Q y) (h2:∀ y,y<s.length→Q y→¬ P y→colZ s r pl y=-1):OutIs s r pl O Q:=⟨ho.1,fun y hy=>by
 by_cases q:P y
 ·exact⟨fun _=>(ho.2 y hy).1 q,fun n=>absurd (h1 y hy q) n⟩
 ·exact⟨fun k=>by rw[(ho.2 y hy).2 q,h2 y hy k q],fun _=>(ho.2 y hy).2 q⟩⟩
def PartP (s:List Nat) (pl:Int→Nat) (i u l y:Nat):Prop:=lateX s pl y<i∨y=u∨∃ l',0<l'∧l' < l∧y=itf (at' s) l' u ^^^ 1
theorem OutIs.start:OutIs s r pl (List.replicate s.length (-1)) (fun y=>lateX s pl y<2):=by
 refine⟨by simp,fun y hy=>⟨fun k=>?_,fun _=>by rw[nth_at (by simpa using hy)];simp⟩⟩
 rw[nth_at (by simpa using hy),List.getElem_replicate]
 have hm:=xor_one_lt h.even hy
 unfold lateX farP at k
 refine (col_outer h hr hp ?_).symm
 unfold outZ
 rw[(corn_iff h hr hp hy).2 (.inl (by omega)),(corn_iff h hr hp hm).2 (.inl (by omega))]
 rfl
variable {i u q J : Nat} (hE : EndsAt s r pl i u q J) (hi : i < (sizesL s).length)
include hE hi
theorem EndsAt.late {l:Nat} (hl:l≤J):lateX s pl (itf (at' s) l u)=i∧lateX s pl (itf (at' s) l u ^^^ 1)=i:=by
 have io:=it_in h hr hp hE.ul l
 have a:farP s pl (itf (at' s) l u)<plD s pl (itf (at' s) l u):=hE.ahd l hl
 have e:plD s pl (itf (at' s) l u)=i:=by unfold plD;rw[io.2,hE.uv];exact plc h hr hp hi
 have e2:plD s pl (itf (at' s) l u ^^^ 1)=farP s pl (itf (at' s) l u):=rfl
 have e3:farP s pl (itf (at' s) l u ^^^ 1)=plD s pl (itf (at' s) l u):=by unfold farP;rw[xor_one_one]
 unfold lateX
 omega
theorem EndsAt.first {O:List Int} (ho:OutIs s r pl O (fun y=>lateX s pl y<i)):OutIs s r pl (paintL s r O u 1) (PartP s pl i u 1):=
 OutIs.to h hr hp (OutIs.paint h hr hp ho hE.ul fun o=>(hE.cu o).symm) (fun y _ k=>by
  rcases k with k|k
  ·exact .inl k
  ·exact .inr (.inl k)) (fun y _ k n=>by
  rcases k with k|k|⟨l',k1,k2,_⟩
  ·exact absurd (.inl k) n
  ·exact absurd (.inr k) n
  ·omega)
theorem EndsAt.next {O:List Int} {l:Nat} (l0:0<l) (hl:l<J) (ho:OutIs s r pl O (PartP s pl i u l)):OutIs s r pl (paintL s r O (itf (at' s) l u ^^^ 1) 0) (PartP s pl i u (l+1)):=
 OutIs.to h hr hp (OutIs.paint h hr hp ho (xor_one_lt h.even (it_in h hr hp hE.ul l).1) fun o=>((hE.ci l l0 hl).2 (by rw[outZ_mate] at o;exact o)).symm) (fun y _ k=>by
  rcases k with (k|k|⟨l',k1,k2,k3⟩)|k
  ·exact .inl k
  ·exact .inr (.inl k)
  ·exact .inr (.inr ⟨l',k1,by omega,k3⟩)
  ·exact .inr (.inr ⟨l,l0,by omega,k⟩)) (fun y _ k n=>by
  rcases k with k|k|⟨l',k1,k2,k3⟩
  ·exact absurd (.inl (.inl k)) n
  ·exact absurd (.inl (.inr (.inl k))) n
  ·rcases Nat.lt_or_ge l' l with w|w
   ·exact absurd (.inl (.inr (.inr ⟨l',k1,w,k3⟩))) n
   ·have:l'=l:=by omega
    rw[this] at k3
    exact absurd (.inr k3) n)
theorem EndsAt.done {O:List Int} (ho:OutIs s r pl O (PartP s pl i u J)):OutIs s r pl (paintL s r O q 2) (fun y=>lateX s pl y<i+1):=
 OutIs.to h hr hp (OutIs.paint h hr hp ho hE.ql fun o=>(hE.cq o).symm) (fun y _ k=>by
  rcases k with (k|k|⟨l',k1,k2,k3⟩)|k
  ·omega
  ·have:=(hE.late h hr hp hi (l:=0) (Nat.zero_le _)).1
   rw[show itf (at' s) 0 u=u from rfl,←k] at this
   omega
  ·have:=(hE.late h hr hp hi (l:=l') (by omega)).2
   rw[←k3] at this
   omega
  ·have:=(hE.late h hr hp hi (l:=J) (Nat.le_refl _)).1
   rw[hE.uq,←k] at this
   omega) (fun y hy k' n=>by
  have k:lateX s pl y<i+1:=k'
  have k1:¬ lateX s pl y<i:=fun w=>n (.inl (.inl w))
  have hm:=xor_one_lt h.even hy
  have own:=far_own h hr hp hy
  rcases Nat.lt_or_ge (farP s pl y) (plD s pl y) with w|w
  ·have e0:plD s pl y=i:=by unfold lateX at k k1;omega
   have e:pl (nth (namesL s) y)=i:=e0
   have e2:nth (namesL s) y=nth (orderL s r) i:=by rw[←(place_of h hr hp hy).2,e]
   obtain⟨l,l1,l2⟩:=hE.all y hy e2 w
   rcases Nat.eq_zero_or_pos l with z|z
   ·rw[z] at l2;exact absurd (.inl (.inr (.inl l2))) n
   ·rcases Nat.lt_or_ge l J with z2|z2
    ·rw[l2];exact (hE.ci l z z2).1
    ·have:l=J:=by omega
     rw[this,hE.uq] at l2
     exact absurd (.inr l2) n
  ·have e0:farP s pl y=i:=by unfold lateX at k k1;omega
   have e:pl (nth (namesL s) (y ^^^ 1))=i:=e0
   have e2:nth (namesL s) (y ^^^ 1)=nth (orderL s r) i:=by rw[←(place_of h hr hp hm).2,e]
   have a:Ahd s pl (y ^^^ 1):=by
    show plD s pl (y ^^^ 1 ^^^ 1)<plD s pl (y ^^^ 1)
    rw[xor_one_one]
    show plD s pl y<farP s pl y
    omega
   obtain⟨l,l1,l2⟩:=hE.all _ hm e2 a
   have ey:y=itf (at' s) l u ^^^ 1:=by rw[←l2,xor_one_one]
   rcases Nat.eq_zero_or_pos l with z|z
   ·rw[z] at ey;rw[ey];exact hE.mu
   ·rcases Nat.lt_or_ge l J with z2|z2
    ·exact absurd (.inl (.inr (.inr ⟨l,z,z2,ey⟩))) n
    ·have:l=J:=by omega
     rw[this,hE.uq] at ey
     rw[ey];exact hE.mq)
end
def woodL (s:List Nat) (r:Nat) (pl:Int→Nat):List Int:=(List.range s.length).map fun x=>colZ s r pl x
theorem woodL_length (s:List Nat) (r:Nat) (pl:Int→Nat):(woodL s r pl).length=s.length:=by simp[woodL]
theorem woodL_at {s:List Nat} {r:Nat} {pl:Int→Nat} {x:Nat} (hx:x<s.length):nth (woodL s r pl) x=colZ s r pl x:=by
 rw[nth_at (by rw[woodL_length];exact hx)]
 simp[woodL]
section
variable {s : List Nat} (h : TriS s) {r : Nat} (hr : r < s.length) {pl : Int → Nat} (hp : Place (orderL s r) pl)
include h hr hp
theorem OutIs.all {O:List Int} (ho:OutIs s r pl O (fun y=>lateX s pl y<(sizesL s).length)):O=woodL s r pl:=by
 refine ext_nth (by rw[ho.1,woodL_length]) fun x hx=>?_
 rw[ho.1] at hx
 rw[woodL_at hx]
 refine (ho.2 x hx).1 ?_
 have k1:=far_lt h hr hp hx
 have k2:=pl_ltV h hr hp hx
 show max _ _<_
 unfold plD at *
 omega
end
end
section
open Go.RowKit
set_option linter.unusedVariables false
section
variable {a : Act} {ops : Array Oper} {Q : Exit → Act → World → Prop} {o : Oper} {rest : List Oper}
end
end
section
open Go.RowKit
set_option linter.unusedVariables false
section
variable {ops : Array Oper} {rest : List Oper} {o : Oper} {a : Act} {Q : Exit → Act → World → Prop}
end
end
section
open Go.RowKit
set_option linter.unusedVariables false
structure Trio (R:Reg) (w0:World) (b1 b2 bo:Nat) (w:World) (v4 v5 vc:Value) (Bl Gl Cl:List Int):Prop where
 ev:Ev R w0 R w
 bd:OwnI R b2 3 w v4 Bl
 gn:OwnI R b2 3 w v5 Gl
 co:OwnI R b1 3 w vc Cl
 l4:∀ k,v4.ownBlock=some k→k<bo
 l5:∀ k,v5.ownBlock=some k→k<bo
 lc:∀ k,vc.ownBlock=some k→k<bo
 sz:bo≤w.heap.size
section
variable {R : Reg} {w0 : World} {b1 b2 bo : Nat} {w : World} {v4 v5 vc : Value} {Bl Gl Cl : List Int} (h : Trio R w0 b1 b2 bo w v4 v5 vc Bl Gl Cl)
include h
end
end
end Go.Proofs.YtgphnkkdmlohlaaGreat
