/- The shelling order of a triangulation, as a list. -/
import Derived.Test.YtgphnkkdmlohlaaGreatZWTP28
namespace Go.Proofs.YtgphnkkdmlohlaaGreat
section
set_option linter.unusedVariables false
set_option linter.unusedSectionVars false
open Classical in
noncomputable def arcN (s:List Nat) (p q:Nat):Nat:=if k:∃ j,itf (at' s) j (p ^^^ 1)=q∧∀ l,l<j→itf (at' s) l (p ^^^ 1)≠q then Classical.choose k else 0
theorem arcN_eq {s:List Nat} {p q j:Nat} (h1:itf (at' s) j (p ^^^ 1)=q) (h2:∀ l,l<j→itf (at' s) l (p ^^^ 1)≠q):arcN s p q=j:=by
 have k:∃ j,itf (at' s) j (p ^^^ 1)=q∧∀ l,l<j→itf (at' s) l (p ^^^ 1)≠q:=⟨j,h1,h2⟩
 have e:arcN s p q=Classical.choose k:=dif_pos k
 obtain⟨k1,k2⟩:=Classical.choose_spec k
 rw[←e] at k1 k2
 rcases Nat.lt_trichotomy (arcN s p q) j with q'|q'|q'
 ·exact absurd k1 (h2 _ q')
 ·exact q'
 ·exact absurd h1 (k2 _ q')
def vtL (s:List Nat) (A:List Nat):List Int:=A.map fun x=>nth (namesL s) x
def goneP (s:List Nat) (out:List Int) (x:Nat):Prop:=x<s.length∧nth (namesL s) x∈out
def FreeI' (s:List Nat) (c:Nat) (A:List Nat) (i:Nat):Prop:=0<i∧i<A.length∧FreeD s A c (A.getD (i-1) 0) (A.getD i 0)
open Classical in
noncomputable def firstI (s:List Nat) (c:Nat) (A:List Nat):Nat:=if k:∃ i,FreeI' s c A i∧∀ l,l<i→¬ FreeI' s c A l then Classical.choose k else 0
theorem firstI_eq {s:List Nat} {c:Nat} {A:List Nat} {i:Nat} (h1:FreeI' s c A i) (h2:∀ l,l<i→¬ FreeI' s c A l):firstI s c A=i:=by
 have k:∃ i,FreeI' s c A i∧∀ l,l<i→¬ FreeI' s c A l:=⟨i,h1,h2⟩
 have e:firstI s c A=Classical.choose k:=dif_pos k
 obtain⟨k1,k2⟩:=Classical.choose_spec k
 rw[←e] at k1 k2
 rcases Nat.lt_trichotomy (firstI s c A) i with q'|q'|q'
 ·exact absurd k1 (h2 _ q')
 ·exact q'
 ·exact absurd h1 (k2 _ q')
noncomputable def cutA (s:List Nat) (A:List Nat) (i:Nat):List Nat:=
 A.take (i-1) ++ (List.range (arcN s (A.getD (i-1) 0) (A.getD i 0))).map (midZ s (A.getD (i-1) 0)) ++ A.drop (i+1)
noncomputable def ordGo (s:List Nat) (c:Nat):Nat→List Nat→List Int→List Int
 | 0,_,out=>out
 | f+1,A,out=>if A.length<2 then out else ordGo s c f (cutA s A (firstI s c A)) (out ++ [nth (namesL s) (A.getD (firstI s c A) 0)])
noncomputable def orderL (s:List Nat) (r:Nat):List Int:=nth (namesL s) r :: nth (namesL s) (at' (phiL s) r) :: (ordGo s (r ^^^ 1) s.length (begA s r) []).reverse
theorem split_at2 {A:List Nat} {i:Nat} (h0:0<i) (hi:i<A.length):A=A.take (i-1) ++ A.getD (i-1) 0 :: A.getD i 0 :: A.drop (i+1):=by
 have e1:A.drop (i-1)=A.getD (i-1) 0 :: A.drop i:=by
  rw[getD_at (by omega),show A.drop i=A.drop (i-1+1) by rw[show i-1+1=i by omega]]
  exact List.drop_eq_getElem_cons (by omega)
 have e2:A.drop i=A.getD i 0 :: A.drop (i+1):=by
  rw[getD_at hi]
  exact List.drop_eq_getElem_cons hi
 rw[←e2,←e1,List.take_append_drop]
def HistAt (s:List Nat) (out:List Int) (t:Nat):Prop:=∃ p q,p<s.length∧q<s.length∧nth out t=nth (namesL s) q∧nth (namesL s) (p ^^^ 1)=nth (namesL s) q∧q≠p ^^^ 1 ∧
 OutJ s (goneP s (out.take t)) p q∧InnJ s (goneP s (out.take t)) p q∧¬ goneP s (out.take t) p∧¬ goneP s (out.take t) (q ^^^ 1)∧(0<t→∃ x,x<s.length∧nth (namesL s) x=nth (namesL s) q∧goneP s (out.take t) (x ^^^ 1))
theorem adjs_two {c d:Nat} {P Q:List Nat} {p q:Nat}:Adjs c ((P ++ p :: q :: Q) ++ [d]) p q∧∃ q',q'∈Q ++ [d]∧Adjs c ((P ++ p :: q :: Q) ++ [d]) q q':=by
 have e:(P ++ p :: q :: Q) ++ [d]=P ++ (p :: q :: (Q ++ [d])):=by simp
 rw[e]
 refine⟨adjs_app.2 (.inr (by simp[Adjs])),?_⟩
 cases Q with
 | nil=>exact⟨d,by simp,adjs_app.2 (.inr (by simp[Adjs]))⟩
 | cons x t=>exact⟨x,by simp,adjs_app.2 (.inr (by simp[Adjs]))⟩
structure ShRun (s:List Nat) (r:Nat) (A:List Nat) (out:List Int):Prop where
 shl:Shl s (goneP s out) (r ^^^ 1) A
 one:out.Nodup
 are:∀ v,v∈out→∃ d,d<s.length∧nth (namesL s) d=v
 rim:out≠[]→∀ i,0<i→i<A.length→∃ x,x<s.length∧nth (namesL s) x=nth (namesL s) (A.getD i 0)∧goneP s out (x ^^^ 1)
 hist:∀ t,t<out.length→HistAt s out t
 beg:out=[]→A.length=2
 head:∃ a t,A=a :: t∧nth (namesL s) a=nth (namesL s) r
 last:nth (namesL s) (r ^^^ 1)=nth (namesL s) (at' (phiL s) r)
section
variable {s : List Nat} (h : TriS s) {r : Nat} (hr : r < s.length)
include h hr
theorem ShRun.start:ShRun s r (begA s r) []:=by
 have e:goneP s []=fun _=>False:=funext fun x=>propext ⟨fun k=>by simp[goneP] at k,fun k=>k.elim⟩
 have hn:=begA_names h hr
 simp only[begA,List.cons_append,List.nil_append,List.map_cons,List.map_nil,List.cons.injEq,and_true] at hn
 refine⟨by rw[e];exact Shl.start h hr,List.nodup_nil,fun v hv=>by simp at hv,fun k=>absurd rfl k,fun t ht=>absurd ht (Nat.not_lt_zero _),fun _=>rfl,⟨_,_,rfl,hn.1⟩,hn.2.2⟩
variable {A : List Nat} {out : List Int} (hR : ShRun s r A out)
include hR
theorem ShRun.first (h2:2≤A.length):FreeI' s (r ^^^ 1) A (firstI s (r ^^^ 1) A)∧∀ l,l<firstI s (r ^^^ 1) A→¬ FreeI' s (r ^^^ 1) A l:=by
 obtain⟨i,i1,i2,i3⟩:=hR.shl.some_free h h2
 obtain⟨m,_,m2,m3⟩:=least_nat (p:=fun i=>FreeI' s (r ^^^ 1) A i) i ⟨i1,i2,i3⟩
 rw[firstI_eq m2 m3]
 exact⟨m2,m3⟩
theorem ShRun.mem {x:Nat} (hx:x∈A ++ [r ^^^ 1]):x<s.length∧nth (namesL s) x∉out:=⟨hR.shl.lt x hx,fun k=>hR.shl.live x hx ⟨hR.shl.lt x hx,k⟩⟩
theorem ShRun.step {i:Nat} (hi:FreeI' s (r ^^^ 1) A i):ShRun s r (cutA s A i) (out ++ [nth (namesL s) (A.getD i 0)])∧0<arcN s (A.getD (i-1) 0) (A.getD i 0) ∧
  itf (at' s) (arcN s (A.getD (i-1) 0) (A.getD i 0)) (A.getD (i-1) 0 ^^^ 1)=A.getD i 0∧∀ l,l<arcN s (A.getD (i-1) 0) (A.getD i 0)→itf (at' s) l (A.getD (i-1) 0 ^^^ 1)≠A.getD i 0:=by
 obtain⟨i1,i2,i3⟩:=hi
 have hA:=split_at2 i1 i2
 obtain⟨p,hp⟩:∃ p,A.getD (i-1) 0=p:=⟨_,rfl⟩
 obtain⟨q,hq⟩:∃ q,A.getD i 0=q:=⟨_,rfl⟩
 rw[hp,hq] at hA i3
 rw[hp,hq]
 obtain⟨J,J0,J1,J2,J3⟩:=hR.shl.step h hA i3
 have eJ:=arcN_eq J1 J2
 have hqm:q∈A:=by rw[hA];simp
 obtain⟨qlt,qout⟩:=hR.mem h hr (List.mem_append_left _ hqm)
 have eG:goneL s (goneP s out) q=goneP s (out ++ [nth (namesL s) q]):=funext fun x=>propext ⟨fun k=>by
  rcases k with k|k
  ·exact⟨k.1,List.mem_append_left _ k.2⟩
  ·exact⟨k.1,by rw[k.2];simp⟩,fun k=>by
  rcases List.mem_append.1 k.2 with k'|k'
  ·exact .inl ⟨k.1,k'⟩
  ·exact .inr ⟨k.1,by simpa using k'⟩⟩
 rw[eG] at J3
 have eC:cutA s A i=A.take (i-1) ++ (List.range J).map (midZ s p) ++ A.drop (i+1):=by unfold cutA;rw[hp,hq,eJ]
 refine⟨⟨by rw[eC];exact J3,?_,?_,?_,?_,fun k=>by simp at k,?_,hR.last⟩,by rw[eJ];exact J0,by rw[eJ];exact J1,by rw[eJ];exact J2⟩
 ·rw[List.nodup_append]
  refine⟨hR.one,by simp,fun a ha b hb e=>?_⟩
  have:b=nth (namesL s) q:=by simpa using hb
  exact qout (by rw[←this,←e];exact ha)
 ·intro v hv
  rcases List.mem_append.1 hv with k|k
  ·exact hR.are v k
  ·have e:v=nth (namesL s) q:=by simpa using k
   exact⟨q,qlt,e.symm⟩
 ·intro _ i' h0 hi'
  have hpA:p∈A:=by rw[hA];simp
  have plt:=(hR.mem h hr (List.mem_append_left _ hpA)).1
  obtain⟨x,hx⟩:∃ x,(cutA s A i).getD i' 0=x:=⟨_,rfl⟩
  rw[hx]
  have hlen:(A.take (i-1)).length=i-1:=by rw[List.length_take];omega
  rw[eC] at hx hi'
  rw[getD_at hi'] at hx
  have hx':(A.take (i-1) ++ (List.range J).map (midZ s p) ++ A.drop (i+1))[i']?=some x:=by rw[List.getElem?_eq_getElem hi',hx]
  have old:∀ j,0<j→j<A.length→j≠i-1→j≠i→A[j]?=some x→∃ y,y<s.length∧nth (namesL s) y=nth (namesL s) x∧goneP s (out ++ [nth (namesL s) q]) (y ^^^ 1):=fun j j0 j1 n1 n2 e=>by
   by_cases ho:out=[]
   ·have:=hR.beg ho
    omega
   ·obtain⟨y,y1,y2,y3⟩:=hR.rim ho j j0 j1
    refine⟨y,y1,?_,y3.1,List.mem_append_left _ y3.2⟩
    rw[y2,List.getD_eq_getElem?_getD,e]
    rfl
  rcases Nat.lt_or_ge i' (i-1) with k|k
  ·rw[List.append_assoc,List.getElem?_append_left (by omega),List.getElem?_take,if_pos k] at hx'
   exact old i' h0 (by omega) (by omega) (by omega) hx'
  ·rcases Nat.lt_or_ge i' (i-1+J) with k'|k'
   ·rw[List.getElem?_append_left (by simp;omega),List.getElem?_append_right (by omega),hlen,List.getElem?_map,List.getElem?_range (by omega)] at hx'
    have ex:midZ s p (i' - (i-1))=x:=by simpa using hx'
    have pm:=xor_one_lt h.even plt
    have it:∀ m,itf (at' s) m (p ^^^ 1)<s.length∧nth (namesL s) (itf (at' s) m (p ^^^ 1))=nth (namesL s) (p ^^^ 1):=fun m=>by
     induction m with
     | zero=>exact⟨pm,rfl⟩
     | succ m ih=>rw[itf_succ];exact⟨h.perm.lt ih.1,by rw[names_turn h.perm ih.1,ih.2]⟩
    have pq:nth (namesL s) (p ^^^ 1)=nth (namesL s) q:=by rw[←(it J).2,J1]
    have hX:=it (i' - (i-1))
    have t1:=(h.tri hX.1).1
    have t3:midZ s p (i' - (i-1))=at' (phiL s) (at' s (itf (at' s) (i' - (i-1)) (p ^^^ 1))) ^^^ 1:=by unfold midZ;rw[itf_succ]
    have t2:=names_turn h.perm (xor_one_lt h.even (h.phl (h.perm.lt hX.1)))
    rw[t1,←t3,ex] at t2
    refine⟨_,xor_one_lt h.even hX.1,t2,by rw[xor_one_one];exact hX.1,?_⟩
    rw[xor_one_one,hX.2,pq]
    simp
   ·rw[List.getElem?_append_right (by simp;omega),List.getElem?_drop] at hx'
    have hb:i+1+(i' - (A.take (i-1) ++ (List.range J).map (midZ s p)).length)<A.length:=by
     rcases Nat.lt_or_ge (i+1+(i' - (A.take (i-1) ++ (List.range J).map (midZ s p)).length)) A.length with w|w
     ·exact w
     ·rw[List.getElem?_eq_none w] at hx'
      simp at hx'
    exact old _ (by omega) hb (by omega) (by omega) hx'
 ·intro t ht
  simp only[List.length_append,List.length_singleton] at ht
  rcases Nat.lt_or_ge t out.length with k|k
  ·obtain⟨p0,q0,k1,k2,k3,k4⟩:=hR.hist t k
   have e1:(out ++ [nth (namesL s) q]).take t=out.take t:=List.take_append_of_le_length (by omega)
   refine⟨p0,q0,k1,k2,?_,?_⟩
   ·rw[←k3];unfold nth;rw[List.getD_eq_getElem?_getD,List.getElem?_append_left k];rfl
   ·rw[e1];exact k4
  ·obtain rfl:t=out.length:=by omega
   have e1:(out ++ [nth (namesL s) q]).take out.length=out:=by simp
   have hL:A ++ [r ^^^ 1]=(A.take (i-1) ++ p :: q :: A.drop (i+1)) ++ [r ^^^ 1]:=by rw[←hA]
   obtain⟨a1,q',a2,a3⟩:=adjs_two (c:=r ^^^ 1) (d:=r ^^^ 1) (P:=A.take (i-1)) (Q:=A.drop (i+1)) (p:=p) (q:=q)
   rw[←hL] at a1 a3
   have hpA:p∈A:=by rw[hA];simp
   obtain⟨plt,pout⟩:=hR.mem h hr (List.mem_append_left _ hpA)
   obtain⟨q'lt,q'out⟩:=hR.mem h hr ((adjs_mem a3).2)
   have n1:=hR.shl.next h a1
   have n2:=hR.shl.next h a3
   refine⟨p,q,plt,qlt,?_,n1,fun e=>J2 0 J0 e.symm,?_⟩
   ·unfold nth;rw[List.getD_eq_getElem?_getD,List.getElem?_append_right (Nat.le_refl _)];simp
   ·rw[e1]
    refine⟨hR.shl.outer _ _ a1,hR.shl.inner _ _ a1,fun k=>pout k.2,fun k=>q'out (by rw[←n2];exact k.2),fun h0=>?_⟩
    obtain⟨x,x1,x2,x3⟩:=hR.rim (fun e=>by rw[e] at h0;simp at h0) i i1 i2
    exact⟨x,x1,by rw[x2,hq],x3⟩
 ·obtain⟨a,t,e1,e2⟩:=hR.head
  rw[eC]
  rcases Nat.lt_or_ge 1 i with k|k
  ·refine⟨a,t.take (i-2) ++ (List.range J).map (midZ s p) ++ A.drop (i+1),?_,e2⟩
   rw[e1]
   obtain⟨m,rfl⟩:∃ m,i=m+2:=⟨i-2,by omega⟩
   simp
  ·obtain rfl:i=1:=by omega
   obtain⟨j,rfl⟩:∃ j,J=j+1:=⟨J-1,by omega⟩
   refine⟨midZ s p 0,(List.range j).map (fun k=>midZ s p (k+1)) ++ A.drop 2,?_,?_⟩
   ·rw[List.range_succ_eq_map]
    simp[List.map_map,Function.comp_def]
   ·have hpa:p=a:=by rw[←hp,e1];rfl
    have plt:p<s.length:=(hR.mem h hr (List.mem_append_left _ (by rw[hA];simp))).1
    have t1:=(h.tri (xor_one_lt h.even plt)).1
    have t2:=names_turn h.perm (xor_one_lt h.even (h.phl (h.perm.lt (xor_one_lt h.even plt))))
    rw[t1,xor_one_one] at t2
    show nth (namesL s) (at' (phiL s) (at' s (p ^^^ 1)) ^^^ 1)=_
    rw[←t2,hpa,e2]
end
end
section
set_option linter.unusedVariables false
set_option linter.unusedSectionVars false
theorem nodup_le {V:Nat} {l:List Int} (hn:l.Nodup) (hb:∀ x,x∈l→0≤x∧x<V):l.length≤V:=by
 rcases Nat.lt_or_ge V l.length with k|k
 ·obtain⟨a,b,hab,hbV,e⟩:=pigeon V (fun i=>(nth l i).toNat) (fun i hi=>by
   have hi':i<l.length:=by omega
   have:nth l i∈l:=by unfold nth;rw[List.getD_eq_getElem?_getD,List.getElem?_eq_getElem hi'];exact List.getElem_mem hi'
   have:=hb _ this
   omega)
  have ha':a<l.length:=by omega
  have hb':b<l.length:=by omega
  have na:nth l a=l[a]:=by unfold nth;rw[List.getD_eq_getElem?_getD,List.getElem?_eq_getElem ha'];rfl
  have nb:nth l b=l[b]:=by unfold nth;rw[List.getD_eq_getElem?_getD,List.getElem?_eq_getElem hb'];rfl
  have m1:=hb _ (List.getElem_mem ha')
  have m2:=hb _ (List.getElem_mem hb')
  rw[na,nb] at e
  have:=nodup_idx hn ha' hb' (by omega)
  omega
 ·exact k
theorem nodup_ge {V:Nat} {l:List Int} (hb:∀ v:Nat,v<V→(v:Int)∈l):V≤l.length:=by
 have:∀ (V:Nat) (l:List Int),(∀ v:Nat,v<V→(v:Int)∈l)→V≤l.length:=by
  intro V
  induction V with
  | zero=>intro l _;omega
  | succ V ih=>
   intro l hb
   have hm:=hb V (by omega)
   have:=ih (l.erase (V:Int)) (fun v hv=>(List.mem_erase_of_ne (by omega)).2 (hb v (by omega)))
   rw[List.length_erase_of_mem hm] at this
   have:=List.length_pos_of_mem hm
   omega
 exact this V l hb
section
variable {s : List Nat} (h : TriS s) {r : Nat} (hr : r < s.length)
include h
theorem TriS.name {x:Nat} (hx:x<s.length):0≤nth (namesL s) x∧nth (namesL s) x<((sizesL s).length:Int):=by
 have ho:=namesL_ord h.perm
 have k1:=ho.bound hx
 have k2:=ho.mono (k:=x+1) (l:=s.length) (by omega) (Nat.le_refl _)
 have k3:(sizesL s).length=(namesGo s s.length).2:=by rw[←sizesGo_all,sizesGo_length h.perm _ (Nat.le_refl _)]
 omega
theorem TriS.named {v:Nat} (hv:v<(sizesL s).length):∃ x,x<s.length∧nth (namesL s) x=v:=by
 have ho:=namesL_ord h.perm
 have k3:(sizesL s).length=(namesGo s s.length).2:=by rw[←sizesGo_all,sizesGo_length h.perm _ (Nat.le_refl _)]
 obtain⟨j,hj,e,_⟩:=ho.has (Nat.le_refl s.length) v (by rw[k3] at hv;exact hv)
 exact⟨j,hj,e⟩
include hr
variable {A : List Nat} {out : List Int} (hR : ShRun s r A out)
include hR
theorem ShRun.ends:nth (namesL s) r∉out∧nth (namesL s) (at' (phiL s) r)∉out∧nth (namesL s) r≠nth (namesL s) (at' (phiL s) r):=by
 obtain⟨a,t,e1,e2⟩:=hR.head
 refine⟨?_,?_,?_⟩
 ·rw[←e2];exact (hR.mem h hr (by rw[e1];simp)).2
 ·rw[←hR.last];exact (hR.mem h hr (by simp)).2
 ·rw[←hR.last];exact h.loop r hr
theorem ShRun.nodup:(nth (namesL s) r :: nth (namesL s) (at' (phiL s) r) :: out.reverse).Nodup:=by
 obtain⟨h1,h2,h3⟩:=hR.ends h hr
 refine List.nodup_cons.2 ⟨?_,List.nodup_cons.2 ⟨by simpa using h2,?_⟩⟩
 ·simp only[List.mem_cons,List.mem_reverse,not_or]
  exact⟨h3,h1⟩
 ·exact List.pairwise_reverse.2 (List.Pairwise.imp (fun k=>Ne.symm k) hR.one)
theorem ShRun.names:∀ x,x∈nth (namesL s) r :: nth (namesL s) (at' (phiL s) r) :: out.reverse→0≤x∧x<((sizesL s).length:Int):=fun x hx=>by
 simp only[List.mem_cons,List.mem_reverse] at hx
 rcases hx with rfl|rfl|hx
 ·exact h.name hr
 ·exact h.name (h.phl hr)
 ·obtain⟨d,hd,rfl⟩:=hR.are x hx
  exact h.name hd
theorem ShRun.len:out.length+2≤(sizesL s).length:=by
 have:=nodup_le (hR.nodup h hr) (hR.names h hr)
 simpa using this
theorem ShRun.all (h1:A.length<2):out.length+2=(sizesL s).length∧∀ v:Nat,v<(sizesL s).length→(v:Int)∈nth (namesL s) r :: nth (namesL s) (at' (phiL s) r) :: out.reverse:=by
 have hall:∀ v:Nat,v<(sizesL s).length→(v:Int)∈nth (namesL s) r :: nth (namesL s) (at' (phiL s) r) :: out.reverse:=fun v hv=>by
  obtain⟨x,hx,e⟩:=h.named hv
  obtain⟨a,t,e1,e2⟩:=hR.head
  have:t=[]:=by
   rw[e1,List.length_cons] at h1
   exact List.eq_nil_of_length_eq_zero (by omega)
  subst this
  subst e1
  simp only[List.mem_cons,List.mem_reverse]
  rcases hR.shl.all h hx with k|k|k
  ·exact .inr (.inr (by rw[←e];exact k.2))
  ·exact .inl (by rw[←e,k,e2])
  ·exact .inr (.inl (by rw[←e,k,hR.last]))
 refine⟨?_,hall⟩
 have k1:=nodup_ge hall
 have k2:=hR.len h hr
 simp at k1
 omega
theorem ShRun.go:∀ f,(sizesL s).length≤out.length+f+2→∃ A' out',ShRun s r A' out'∧A'.length<2∧ordGo s (r ^^^ 1) f A out=out':=by
 intro f
 induction f generalizing A out with
 | zero=>
  intro hf
  rcases Nat.lt_or_ge A.length 2 with k|k
  ·exact⟨A,out,hR,k,rfl⟩
  ·have:=(hR.step h hr (hR.first h hr k).1).1.len h hr
   simp at this
   omega
 | succ f ih=>
  intro hf
  unfold ordGo
  rcases Nat.lt_or_ge A.length 2 with k|k
  ·rw[if_pos k]
   exact⟨A,out,hR,k,rfl⟩
  ·rw[if_neg (by omega)]
   exact ih (hR.step h hr (hR.first h hr k).1).1 (by simp;omega)
end
section
variable {s : List Nat} (h : TriS s) {r : Nat} (hr : r < s.length)
include h hr
theorem order_run:∃ A out,ShRun s r A out∧A.length<2∧orderL s r=nth (namesL s) r :: nth (namesL s) (at' (phiL s) r) :: out.reverse:=by
 have hle:(sizesL s).length≤s.length:=by
  rw[←sizesGo_all,sizesGo_length h.perm _ (Nat.le_refl _)]
  exact namesGo_count s _
 obtain⟨A,out,h1,h2,h3⟩:=(ShRun.start h hr).go h hr s.length (by omega)
 exact⟨A,out,h1,h2,by unfold orderL;rw[h3]⟩
theorem order_len:(orderL s r).length=(sizesL s).length:=by
 obtain⟨A,out,h1,h2,h3⟩:=order_run h hr
 rw[h3]
 have:=(h1.all h hr h2).1
 simp
 omega
theorem order_nodup:(orderL s r).Nodup:=by
 obtain⟨A,out,h1,h2,h3⟩:=order_run h hr
 rw[h3];exact h1.nodup h hr
theorem order_mem (v:Int):v∈orderL s r↔0≤v∧v<((sizesL s).length:Int):=by
 obtain⟨A,out,h1,h2,h3⟩:=order_run h hr
 rw[h3]
 refine⟨h1.names h hr v,fun ⟨k1,k2⟩=>?_⟩
 have:=(h1.all h hr h2).2 v.toNat (by omega)
 rwa [show ((v.toNat:Nat):Int)=v by omega] at this
def OrdTo (s:List Nat) (r:Nat) (A:List Nat) (out:List Int):Prop:=∃ f,(sizesL s).length≤out.length+f+2∧ordGo s (r ^^^ 1) f A out=ordGo s (r ^^^ 1) s.length (begA s r) []
theorem OrdTo.start:OrdTo s r (begA s r) []:=⟨s.length,by
 have hle:(sizesL s).length≤s.length:=by
  rw[←sizesGo_all,sizesGo_length h.perm _ (Nat.le_refl _)]
  exact namesGo_count s _
 omega,rfl⟩
theorem OrdTo.step {A:List Nat} {out:List Int} (ho:OrdTo s r A out) (hR:ShRun s r A out) (h2:2≤A.length) {i:Nat} (h1:FreeI' s (r ^^^ 1) A i) (h3:∀ l,l<i→¬ FreeI' s (r ^^^ 1) A l):OrdTo s r (cutA s A i) (out ++ [nth (namesL s) (A.getD i 0)]):=by
 obtain⟨f,k1,k2⟩:=ho
 have k3:=(hR.step h hr h1).1.len h hr
 simp only[List.length_append,List.length_singleton] at k3
 obtain⟨g,rfl⟩:∃ g,f=g+1:=⟨f-1,by omega⟩
 refine⟨g,by simp;omega,?_⟩
 rw[←k2]
 conv=>rhs;unfold ordGo
 rw[if_neg (by omega),firstI_eq h1 h3]
theorem OrdTo.done {A:List Nat} {out:List Int} (ho:OrdTo s r A out) (h2:A.length<2):orderL s r=nth (namesL s) r :: nth (namesL s) (at' (phiL s) r) :: out.reverse:=by
 obtain⟨f,_,k2⟩:=ho
 unfold orderL
 rw[←k2]
 cases f with
 | zero=>rfl
 | succ f=>unfold ordGo;rw[if_pos h2]
end
end
section
set_option linter.unusedVariables false
set_option linter.unusedSectionVars false
theorem nth_at {l:List Int} {i:Nat} (h:i<l.length):nth l i=l[i]:=by unfold nth;rw[List.getD_eq_getElem?_getD,List.getElem?_eq_getElem h];rfl
theorem nth_mem {l:List Int} {i:Nat} (h:i<l.length):nth l i∈l:=by rw[nth_at h];exact List.getElem_mem h
theorem mem_nth {l:List Int} {v:Int} (h:v∈l):∃ i,i<l.length∧nth l i=v:=by
 obtain⟨i,hi,e⟩:=List.getElem_of_mem h
 exact⟨i,hi,by rw[nth_at hi,e]⟩
def Place (L:List Int) (pl:Int→Nat):Prop:=∀ i,i<L.length→pl (nth L i)=i
section
variable {s : List Nat} (h : TriS s) {r : Nat} (hr : r < s.length) {A : List Nat} {out : List Int} (hR : ShRun s r A out) (h2 : A.length < 2)
 {pl:Int→Nat} (hp:Place (nth (namesL s) r :: nth (namesL s) (at' (phiL s) r) :: out.reverse) pl)
include h hr hR h2 hp
theorem pl_first:pl (nth (namesL s) r)=0:=by have:=hp 0 (by simp);simpa [nth] using this
theorem pl_second:pl (nth (namesL s) (at' (phiL s) r))=1:=by have:=hp 1 (by simp);simpa [nth] using this
theorem pl_out {t:Nat} (ht:t<out.length):pl (nth out t)=out.length+1-t:=by
 have:=hp (out.length+1-t) (by simp;omega)
 have e:nth (nth (namesL s) r :: nth (namesL s) (at' (phiL s) r) :: out.reverse) (out.length+1-t)=nth out t:=by
  obtain⟨k,hk⟩:∃ k,out.length+1-t=k+2:=⟨out.length-1-t,by omega⟩
  rw[hk]
  have e1:nth (nth (namesL s) r :: nth (namesL s) (at' (phiL s) r) :: out.reverse) (k+2)=nth out.reverse k:=by simp[nth]
  rw[e1,nth_at (by simp;omega),nth_at ht,List.getElem_reverse]
  congr 1
  omega
 rw[e] at this
 exact this
theorem pl_cases {x:Nat} (hx:x<s.length):nth (namesL s) x=nth (namesL s) r∨nth (namesL s) x=nth (namesL s) (at' (phiL s) r)∨∃ t,t<out.length∧nth (namesL s) x=nth out t:=by
 obtain⟨k1,k2⟩:=h.name hx
 have:=(hR.all h hr h2).2 (nth (namesL s) x).toNat (by omega)
 rw[show (((nth (namesL s) x).toNat:Nat):Int)=nth (namesL s) x by omega] at this
 simp only[List.mem_cons,List.mem_reverse] at this
 rcases this with k|k|k
 ·exact .inl k
 ·exact .inr (.inl k)
 ·obtain⟨i,hi,e⟩:=mem_nth k
  exact .inr (.inr ⟨i,hi,e.symm⟩)
theorem out_one {t u:Nat} (ht:t<out.length) (hu:u<out.length) (e:nth out t=nth out u):t=u:=by
 rw[nth_at ht,nth_at hu] at e
 exact nodup_idx hR.one ht hu e
theorem take_mem {t u:Nat} (ht:t<out.length) (hu:u<out.length):nth out u∈out.take t↔u<t:=by
 constructor
 ·intro k
  obtain⟨i,hi,e⟩:=mem_nth k
  have hi':i<t:=by rw[List.length_take] at hi;omega
  have e2:nth (out.take t) i=nth out i:=by rw[nth_at hi,nth_at (by omega),List.getElem_take]
  rw[e2] at e
  have:=out_one h hr hR h2 hp (by omega) hu e
  omega
 ·intro k
  have:nth (out.take t) u=nth out u:=by rw[nth_at (by rw[List.length_take];omega),nth_at hu,List.getElem_take]
  rw[←this]
  exact nth_mem (by rw[List.length_take];omega)
theorem pl_ahead {t x:Nat} (ht:t<out.length) (hx:x<s.length) (e:nth (namesL s) x=nth out t):pl (nth (namesL s) (x ^^^ 1))<pl (nth (namesL s) x)↔¬ goneP s (out.take t) (x ^^^ 1):=by
 have hm:=xor_one_lt h.even hx
 obtain⟨n1,n2,_⟩:=hR.ends h hr
 rw[e,pl_out h hr hR h2 hp ht]
 have sub:∀ v,v∈out.take t→v∈out:=fun v hv=>List.mem_of_mem_take hv
 rcases pl_cases h hr hR h2 hp hm with k|k|⟨u,hu,k⟩
 ·rw[k,pl_first h hr hR h2 hp]
  exact⟨fun _ q=>n1 (by rw[←k];exact sub _ q.2),fun _=>by omega⟩
 ·rw[k,pl_second h hr hR h2 hp]
  exact⟨fun _ q=>n2 (by rw[←k];exact sub _ q.2),fun _=>by omega⟩
 ·rw[k,pl_out h hr hR h2 hp hu]
  have hne:u≠t:=fun e2=>h.loop x hx (by rw[e,k,e2])
  have hg:goneP s (out.take t) (x ^^^ 1)↔u<t:=by
   unfold goneP
   rw[k,take_mem h hr hR h2 hp ht hu]
   exact⟨fun q=>q.2,fun q=>⟨hm,q⟩⟩
  rw[hg]
  omega
end
end
section
set_option linter.unusedVariables false
set_option linter.unusedSectionVars false
theorem tally_perm {n:Nat} {f:Nat→Nat} (h:Pm n f) (p:Nat→Prop):tally (fun x=>p (f x)) n=tally p n:=by
 refine Nat.le_antisymm (tally_inj f (fun x hx q=>⟨h.lt hx,q⟩) (fun x y hx hy _ _ e=>h.inj hx hy e)) ?_
 classical
 have hp:∀ x,x<n→∃ a,a<n∧f a=x:=fun x hx=>h.pre hx
 refine tally_inj (fun x=>if q:x<n then Classical.choose (hp x q) else 0) (fun x hx q=>?_) (fun x y hx hy _ _ e=>?_)
 ·simp only[dif_pos hx]
  obtain⟨k1,k2⟩:=Classical.choose_spec (hp x hx)
  exact⟨k1,by rw[k2];exact q⟩
 ·simp only[dif_pos hx,dif_pos hy] at e
  rw[←(Classical.choose_spec (hp x hx)).2,←(Classical.choose_spec (hp y hy)).2,e]
section
variable {s : List Nat} (h : TriS s)
include h
theorem TriS.faces3:s.length=3*(sizesL (phiL s)).length:=by
 have hp:=phiL_perm h.perm h.even
 have hl:=phiL_length s
 have hP:Pm s.length (at' (phiL s)):=by have t:=hp.pm;rwa [hl] at t
 have e1:(sizesL (phiL s)).length=tally (Least (cyc s.length (at' (phiL s)))) s.length:=by
  rw[←(phi_ord h.perm h.even).cnt_eq (Nat.le_refl _)]
  have t:=sizesGo_length hp _ (Nat.le_refl _)
  rw[sizesGo_all,hl] at t
  exact t
 obtain⟨φ,hφ⟩:∃ φ,at' (phiL s)=φ:=⟨_,rfl⟩
 rw[hφ] at hP e1
 have h3:∀ x,x<s.length→φ (φ (φ x))=x∧φ x≠x:=fun x hx=>by rw[←hφ];exact h.three x hx
 obtain⟨Lf,hL⟩:∃ Lf,Least (cyc s.length φ)=Lf:=⟨_,rfl⟩
 rw[hL] at e1
 have same:∀ x y,x<s.length→y<s.length→cyc s.length φ x y→Lf x→Lf y→x=y:=fun x y hx hy hc q1 q2=>by
  rw[←hL] at q1 q2;exact hP.per.least_one q1 q2 hc
 have c1:∀ x,x<s.length→cyc s.length φ x (φ x):=fun x hx=>hP.step hx
 have lt1:∀ x,x<s.length→φ x<s.length:=fun x hx=>hP.lt hx
 have n2:∀ x,x<s.length→φ (φ x)≠x:=fun x hx e=>(h3 x hx).2 (by have:=(h3 x hx).1;rw[e] at this;exact this)
 have some:∀ x,x<s.length→Lf x∨Lf (φ x)∨Lf (φ (φ x)):=fun x hx=>by
  obtain⟨l,_,hc,hl⟩:=hP.per.least x hx
  rw[hL] at hl
  obtain⟨_,_,j,ej⟩:=hP.per.symm hc
  have:∀ j,itf φ j x=x∨itf φ j x=φ x∨itf φ j x=φ (φ x):=fun j=>by
   induction j with
   | zero=>exact .inl rfl
   | succ j ih=>
    rw[itf_succ]
    rcases ih with e|e|e <;> rw[e]
    ·exact .inr (.inl rfl)
    ·exact .inr (.inr rfl)
    ·exact .inl (h3 x hx).1
  rcases this j with e|e|e
  ·exact .inl (by rw[←e,ej];exact hl)
  ·exact .inr (.inl (by rw[←e,ej];exact hl))
  ·exact .inr (.inr (by rw[←e,ej];exact hl))
 have t0:tally Any s.length=s.length:=tally_all fun _ _=>trivial
 have t1:=tally_split Any Lf s.length
 have t2:=tally_split (fun x=>Any x∧¬ Lf x) (fun x=>Lf (φ x)) s.length
 have a1:tally (fun x=>Any x∧Lf x) s.length=tally Lf s.length:=tally_congr fun _ _=>⟨fun q=>q.2,fun q=>⟨trivial,q⟩⟩
 have a2:tally (fun x=>(Any x∧¬ Lf x)∧Lf (φ x)) s.length=tally (fun x=>Lf (φ x)) s.length:=tally_congr fun x hx=>⟨fun q=>q.2,fun q=>⟨⟨trivial,fun q2=>(h3 x hx).2 (same _ _ (lt1 x hx) hx (hP.per.symm (c1 x hx)) q q2)⟩,q⟩⟩
 have a3:tally (fun x=>(Any x∧¬ Lf x)∧¬ Lf (φ x)) s.length=tally (fun x=>Lf (φ (φ x))) s.length:=tally_congr fun x hx=>by
  have hx1:=lt1 x hx
  have hx2:=lt1 _ hx1
  constructor
  ·rintro⟨⟨_,q1⟩,q2⟩
   rcases some x hx with q|q|q
   ·exact absurd q q1
   ·exact absurd q q2
   ·exact q
  ·intro q
   refine⟨⟨trivial,fun q2=>n2 x hx (same _ _ hx2 hx (hP.per.symm (hP.per.trans (c1 x hx) (c1 _ hx1))) q q2)⟩,fun q2=>(h3 _ hx1).2 (same _ _ hx2 hx1 (hP.per.symm (c1 _ hx1)) q q2)⟩
 rw[tally_perm hP] at a2
 have a4:tally (fun x=>Lf (φ (φ x))) s.length=tally Lf s.length:=by
  rw[show (fun x=>Lf (φ (φ x)))=fun x=>(fun y=>Lf (φ y)) (φ x) from rfl,tally_perm hP (fun y=>Lf (φ y)),tally_perm hP]
 omega
theorem TriS.edges6:s.length / 2+6=3*(sizesL s).length:=by
 have e1:=h.faces3
 have e2:=euler_plane h.perm h.even h.parts h.genus
 have e3:=h.even
 omega
end
end
section
set_option linter.unusedVariables false
set_option linter.unusedSectionVars false
section
variable {s : List Nat} (h : TriS s) {r : Nat} (hr : r < s.length) {pl : Int → Nat} (hp : Place (orderL s r) pl)
include h hr hp
theorem place_of {x:Nat} (hx:x<s.length):pl (nth (namesL s) x)<(sizesL s).length∧nth (orderL s r) (pl (nth (namesL s) x))=nth (namesL s) x:=by
 obtain⟨i,hi,e⟩:=mem_nth ((order_mem h hr _).2 (h.name hx))
 have:=hp i hi
 rw[e] at this
 rw[this,←order_len h hr]
 exact⟨hi,e⟩
theorem place_inj {x y:Nat} (hx:x<s.length) (hy:y<s.length) (e:pl (nth (namesL s) x)=pl (nth (namesL s) y)):nth (namesL s) x=nth (namesL s) y:=by
 rw[←(place_of h hr hp hx).2,←(place_of h hr hp hy).2,e]
end
end
section
set_option linter.unusedVariables false
set_option linter.unusedSectionVars false
def sumQ (f:Nat→Nat):Nat→Nat
 | 0=>0
 | k+1=>sumQ f k+f k
theorem sumQ_congr {f g:Nat→Nat}:∀ {n:Nat},(∀ k,k<n→f k=g k)→sumQ f n=sumQ g n
 | 0,_=>rfl
 | n+1,h=>by show sumQ f n+f n=sumQ g n+g n;rw[sumQ_congr fun k hk=>h k (by omega),h n (by omega)]
theorem sumQ_zero {f:Nat→Nat}:∀ {n:Nat},(∀ k,k<n→f k=0)→sumQ f n=0
 | 0,_=>rfl
 | n+1,h=>by show sumQ f n+f n=0;rw[sumQ_zero fun k hk=>h k (by omega),h n (by omega)]
theorem sumQ_add (f g:Nat→Nat):∀ n,sumQ (fun k=>f k+g k) n=sumQ f n+sumQ g n
 | 0=>rfl
 | n+1=>by show sumQ (fun k=>f k+g k) n+(f n+g n)=(sumQ f n+f n)+(sumQ g n+g n);rw[sumQ_add f g n];omega
theorem sumQ_ind {a:Nat}:∀ {n:Nat},sumQ (fun k=>ind (a=k)) n=ind (a<n)
 | 0=>by rw[ind_no (by omega)];rfl
 | n+1=>by
  show sumQ (fun k=>ind (a=k)) n+ind (a=n)=_
  rw[sumQ_ind]
  by_cases h:a<n
  ·rw[ind_yes h,ind_no (by omega),ind_yes (show a<n+1 by omega)]
  ·by_cases e:a=n
   ·rw[ind_no h,ind_yes e,ind_yes (show a<n+1 by omega)]
   ·rw[ind_no h,ind_no e,ind_no (show ¬ a<n+1 by omega)]
theorem sumQ_tally (f:Nat→Nat) (p:Nat→Prop) (k:Nat):∀ n,sumQ (fun i=>tally (fun e=>p e∧f e=i) n) k=tally (fun e=>p e∧f e<k) n
 | 0=>sumQ_zero fun _ _=>rfl
 | n+1=>by
  have e:(fun i=>tally (fun e=>p e∧f e=i) (n+1))=fun i=>tally (fun e=>p e∧f e=i) n+ind (p n∧f n=i):=rfl
  rw[e,sumQ_add,sumQ_tally f p k n,tally_succ]
  congr 1
  by_cases hp:p n
  ·rw[sumQ_congr (g:=fun i=>ind (f n=i)) fun i _=>ind_congr ⟨fun q=>q.2,fun q=>⟨hp,q⟩⟩,sumQ_ind]
   exact ind_congr ⟨fun q=>⟨hp,q⟩,fun q=>q.2⟩
  ·rw[sumQ_zero fun i _=>ind_no fun q=>hp q.1,ind_no fun q=>hp q.1]
theorem ordGo_pre (s:List Nat) (c:Nat):∀ f A out,∃ t,ordGo s c f A out=out ++ t
 | 0,_,out=>⟨[],by simp[ordGo]⟩
 | f+1,A,out=>by
  unfold ordGo
  split
  ·exact⟨[],by simp⟩
  ·obtain⟨t,e⟩:=ordGo_pre s c f (cutA s A (firstI s c A)) (out ++ [nth (namesL s) (A.getD (firstI s c A) 0)])
   exact⟨_,by rw[e,List.append_assoc]⟩
section
variable {s : List Nat} (h : TriS s) {r : Nat} (hr : r < s.length)
include h hr
theorem order_last:nth (orderL s r) ((sizesL s).length-1)=nth (namesL s) (at' (phiL s) (at' (phiL s) r)):=by
 have hS:=ShRun.start h hr
 obtain⟨hf,_⟩:=hS.first h hr (by show 2≤2;omega)
 have f1:firstI s (r ^^^ 1) (begA s r)=1:=by
  have a:=hf.1
  have b:firstI s (r ^^^ 1) (begA s r)<2:=hf.2.1
  omega
 have hn:=begA_names h hr
 simp only[begA,List.cons_append,List.nil_append,List.map_cons,List.map_nil,List.cons.injEq,and_true] at hn
 obtain⟨g,hg⟩:∃ g,s.length=g+1:=⟨s.length-1,by omega⟩
 obtain⟨t,ht⟩:=ordGo_pre s (r ^^^ 1) g (cutA s (begA s r) 1) ([] ++ [nth (namesL s) ((begA s r).getD 1 0)])
 have e:orderL s r=nth (namesL s) r :: nth (namesL s) (at' (phiL s) r) :: (nth (namesL s) (at' (phiL s) (at' (phiL s) r)) :: t).reverse:=by
  unfold orderL
  rw[hg]
  unfold ordGo
  rw[if_neg (by show ¬ 2<2;omega),f1,ht]
  have:(begA s r).getD 1 0=at' (phiL s) r ^^^ 1:=rfl
  rw[this,hn.2.1]
  rfl
 have hl:=order_len h hr
 rw[←hl,e]
 have:nth (namesL s) r :: nth (namesL s) (at' (phiL s) r) :: (nth (namesL s) (at' (phiL s) (at' (phiL s) r)) :: t).reverse=(nth (namesL s) r :: nth (namesL s) (at' (phiL s) r) :: t.reverse) ++ [nth (namesL s) (at' (phiL s) (at' (phiL s) r))]:=by simp
 rw[this]
 unfold nth
 rw[List.getD_eq_getElem?_getD,List.getElem?_append_right (by simp)]
 simp
variable {pl : Int → Nat} (hp : Place (orderL s r) pl)
include hp
theorem plc {i:Nat} (hi:i<(sizesL s).length):pl (nth (orderL s r) i)=i:=hp i (by rw[order_len h hr];exact hi)
theorem plc_first:pl (nth (namesL s) r)=0:=plc h hr hp (i:=0) (by have:=h.big;omega)
theorem plc_second:pl (nth (namesL s) (at' (phiL s) r))=1:=plc h hr hp (i:=1) (by have:=h.big;omega)
theorem plc_last:pl (nth (namesL s) (at' (phiL s) (at' (phiL s) r)))=(sizesL s).length-1:=by
 rw[←order_last h hr]
 exact plc h hr hp (by have:=h.big;omega)
def Ahd (s:List Nat) (pl:Int→Nat) (x:Nat):Prop:=pl (nth (namesL s) (x ^^^ 1))<pl (nth (namesL s) x)
structure RunAt (s:List Nat) (pl:Int→Nat) (v:Int) (q u j J:Nat):Prop where
 ql:q<s.length
 ul:u<s.length
 qv:nth (namesL s) q=v
 uv:nth (namesL s) u=v
 ne:q≠u
 j0:0<j
 qu:itf (at' s) j q=u
 uq:itf (at' s) J u=q
 one:∀ l,l<J→itf (at' s) l u≠q
 no:∀ l,0<l→l<j→¬ Ahd s pl (itf (at' s) l q)
 yes:∀ l,l≤J→Ahd s pl (itf (at' s) l u)
theorem run_at {i:Nat} (h2:2≤i) (hi:i<(sizesL s).length):(∃ q u j J,RunAt s pl (nth (orderL s r) i) q u j J∧(i<(sizesL s).length-1→1<j)) ∧
  (i=(sizesL s).length-1→∀ x,x<s.length→nth (namesL s) x=nth (orderL s r) i→Ahd s pl x):=by
 obtain⟨A,out,hR,hA,he⟩:=order_run h hr
 have hp':=hp
 rw[he] at hp'
 have hV:=(hR.all h hr hA).1
 obtain⟨t,ht,hti,hv⟩:∃ t,t<out.length∧t=(sizesL s).length-1-i∧nth (orderL s r) i=nth out t:=by
  refine⟨(sizesL s).length-1-i,by omega,rfl,?_⟩
  obtain⟨k,rfl⟩:∃ k,i=k+2:=⟨i-2,by omega⟩
  rw[he]
  have e1:nth (nth (namesL s) r :: nth (namesL s) (at' (phiL s) r) :: out.reverse) (k+2)=nth out.reverse k:=by simp[nth]
  rw[e1,nth_at (by simp;omega),nth_at (by omega),List.getElem_reverse]
  congr 1
  omega
 have ah:∀ x,x<s.length→nth (namesL s) x=nth out t→(Ahd s pl x↔¬ goneP s (out.take t) (x ^^^ 1)):=fun x hx e=>pl_ahead h hr hR hA hp' ht hx e
 rw[hv]
 have it:∀ x,x<s.length→∀ m,itf (at' s) m x<s.length∧nth (namesL s) (itf (at' s) m x)=nth (namesL s) x:=fun x hx m=>by
  induction m with
  | zero=>exact⟨hx,rfl⟩
  | succ m ih=>rw[itf_succ];exact⟨h.perm.lt ih.1,by rw[names_turn h.perm ih.1,ih.2]⟩
 constructor
 ·obtain⟨p,q,k1,k2,k3,k4,k5,⟨j,j0,j1,j2⟩,⟨J,J1,J2,J3⟩,k6,k7,k8⟩:=hR.hist t ht
  have hpm:=xor_one_lt h.even k1
  have uv:nth (namesL s) (p ^^^ 1)=nth out t:=by rw[k4,k3]
  have aq:Ahd s pl q:=(ah q k2 k3.symm).2 k7
  have au:Ahd s pl (p ^^^ 1):=(ah _ hpm uv).2 (by rw[xor_one_one];exact k6)
  have no:∀ l,0<l→l<j→¬ Ahd s pl (itf (at' s) l q):=fun l l0 l1 k=>by
   have:=it q k2 l
   exact ((ah _ this.1 (by rw[this.2,k3])).1 k) (j2 l l0 l1)
  have yes:∀ l,l≤J→Ahd s pl (itf (at' s) l (p ^^^ 1)):=fun l l1=>by
   have tt:=it _ hpm l
   rcases Nat.eq_zero_or_pos l with e|l0
   ·subst e;exact au
   ·rcases Nat.lt_or_ge l J with l2|l2
    ·exact (ah _ tt.1 (by rw[tt.2,uv])).2 (J3 l l0 l2)
    ·obtain rfl:l=J:=by omega
     rw[J1];exact aq
  refine⟨q,p ^^^ 1,j,J,⟨k2,hpm,k3.symm,uv,k5,j0,j1,J1,J2,no,yes⟩,fun hlt=>?_⟩
  rcases Nat.lt_or_ge 1 j with g|g
  ·exact g
  ·obtain rfl:j=1:=by omega
   obtain⟨x,x1,x2,x3⟩:=k8 (by omega)
   exfalso
   obtain⟨_,_,m,hm⟩:=(cyc_at h.perm).2 ⟨k2,x1,x2.symm⟩
   have all:∀ m,∃ l,l≤J∧itf (at' s) m q=itf (at' s) l (p ^^^ 1):=fun m=>by
    induction m with
    | zero=>exact⟨J,Nat.le_refl _,J1.symm⟩
    | succ m ih=>
     obtain⟨l,l1,l2⟩:=ih
     rw[itf_succ,l2]
     rcases Nat.lt_or_ge l J with g2|g2
     ·exact⟨l+1,g2,(itf_succ ..).symm⟩
     ·obtain rfl:l=J:=by omega
      rw[J1]
      exact⟨0,Nat.zero_le _,j1⟩
   obtain⟨l,l1,l2⟩:=all m
   rw[hm] at l2
   exact (ah x x1 (by rw[x2,k3])).1 (by rw[l2];exact yes l l1) x3
 ·intro e x hx ex
  have t0:t=0:=by omega
  exact (ah x hx ex).2 (by rw[t0];rintro⟨_,k⟩;simp at k)
end
section
variable {s : List Nat} (h : TriS s) {pl : Int → Nat} {v : Int} {q u j J : Nat} (hk : RunAt s pl v q u j J)
include h hk
theorem RunAt.cases {x:Nat} (hx:x<s.length) (e:nth (namesL s) x=v):(∃ l,0<l∧l<j∧x=itf (at' s) l q)∨∃ l,l≤J∧x=itf (at' s) l u:=by
 obtain⟨_,_,m,hm⟩:=(cyc_at h.perm).2 ⟨hk.ql,hx,by rw[hk.qv,e]⟩
 have all:∀ m,(∃ l,0<l∧l<j∧itf (at' s) m q=itf (at' s) l q)∨∃ l,l≤J∧itf (at' s) m q=itf (at' s) l u:=fun m=>by
  induction m with
  | zero=>exact .inr ⟨J,Nat.le_refl _,hk.uq.symm⟩
  | succ m ih=>
   rcases ih with ⟨l,l0,l1,l2⟩|⟨l,l1,l2⟩
   ·rw[itf_succ,l2]
    rcases Nat.lt_or_ge (l+1) j with g|g
    ·exact .inl ⟨l+1,by omega,g,(itf_succ ..).symm⟩
    ·refine .inr ⟨0,Nat.zero_le _,?_⟩
     have:l+1=j:=by omega
     rw[show at' s (itf (at' s) l q)=itf (at' s) (l+1) q from (itf_succ ..).symm,this,hk.qu]
     rfl
   ·rw[itf_succ,l2]
    rcases Nat.lt_or_ge l J with g|g
    ·exact .inr ⟨l+1,g,(itf_succ ..).symm⟩
    ·obtain rfl:l=J:=by omega
     rw[hk.uq]
     have j0:=hk.j0
     rcases Nat.lt_or_ge 1 j with g2|g2
     ·exact .inl ⟨1,by omega,g2,rfl⟩
     ·have:j=1:=by omega
      have qu:=hk.qu
      rw[this] at qu
      exact .inr ⟨0,Nat.zero_le _,qu⟩
 rcases all m with ⟨l,l0,l1,l2⟩|⟨l,l1,l2⟩
 ·exact .inl ⟨l,l0,l1,by rw[←hm,l2]⟩
 ·exact .inr ⟨l,l1,by rw[←hm,l2]⟩
theorem RunAt.last {x:Nat} (hx:x<s.length) (e:nth (namesL s) x=v) (h1:Ahd s pl x) (h2:¬ Ahd s pl (at' s x)):x=q:=by
 rcases hk.cases h hx e with ⟨l,l0,l1,l2⟩|⟨l,l1,l2⟩
 ·exact absurd (by rw[←l2];exact h1) (hk.no l l0 l1)
 ·rcases Nat.lt_or_ge l J with g|g
  ·have:=hk.yes (l+1) g
   rw[itf_succ,←l2] at this
   exact absurd this h2
  ·obtain rfl:l=J:=by omega
   rw[l2,hk.uq]
theorem RunAt.begin {x:Nat} (hx:x<s.length) (e:nth (namesL s) x=v) (h1:¬ Ahd s pl x) (h2:Ahd s pl (at' s x)):at' s x=u:=by
 rcases hk.cases h hx e with ⟨l,l0,l1,l2⟩|⟨l,l1,l2⟩
 ·rcases Nat.lt_or_ge (l+1) j with g|g
  ·have:=hk.no (l+1) (by omega) g
   rw[itf_succ,←l2] at this
   exact absurd h2 this
  ·have:l+1=j:=by omega
   rw[l2,show at' s (itf (at' s) l q)=itf (at' s) (l+1) q from (itf_succ ..).symm,this,hk.qu]
 ·exact absurd (by rw[l2];exact hk.yes l l1) h1
end
end
section
set_option linter.unusedVariables false
set_option linter.unusedSectionVars false
section
variable {s : List Nat} (h : TriS s) {r : Nat} (hr : r < s.length) {pl : Int → Nat} (hp : Place (orderL s r) pl)
include h hr hp
end
end
section
set_option linter.unusedVariables false
set_option linter.unusedSectionVars false
section
variable {s : List Nat} (h : TriS s) {r : Nat} (hr : r < s.length) {pl : Int → Nat} (hp : Place (orderL s r) pl)
def plD (s:List Nat) (pl:Int→Nat) (x:Nat):Nat:=pl (nth (namesL s) x)
include h hr
include hp
theorem pl_ltV {x:Nat} (hx:x<s.length):plD s pl x<(sizesL s).length:=(place_of h hr hp hx).1
end
end
section
set_option linter.unusedVariables false
set_option linter.unusedSectionVars false
def PlTo (P L:List Int) (V i:Nat):Prop:=P.length=V∧∀ j,j<i→nth P (nth L j).toNat=(j:Int)
def plP (P:List Int) (v:Int):Nat:=(nth P v.toNat).toNat
theorem PlTo.start (L:List Int) (V:Nat):PlTo (List.replicate V 0) L V 0:=⟨by simp,fun j hj=>absurd hj (Nat.not_lt_zero _)⟩
theorem PlTo.step {P L:List Int} {V i:Nat} (h:PlTo P L V i) (hn:L.Nodup) (hb:∀ v,v∈L→0≤v∧v<(V:Int)) (hi:i<L.length):PlTo (P.set (nth L i).toNat (i:Int)) L V (i+1):=by
 refine⟨by simpa using h.1,fun j hj=>?_⟩
 have k1:=hb _ (nth_mem hi)
 have k2:=hb _ (nth_mem (show j<L.length by omega))
 rw[nth_set (by rw[h.1];omega)]
 by_cases e:j=i
 ·subst e;rw[if_pos rfl]
 ·rw[if_neg,h.2 j (by omega)]
  intro q
  have:nth L i=nth L j:=by omega
  rw[nth_at hi,nth_at (show j<L.length by omega)] at this
  exact e (nodup_idx hn (by omega) hi this.symm)
theorem PlTo.place {P L:List Int} {V:Nat} (h:PlTo P L V L.length):Place L (plP P):=fun i hi=>by
 unfold plP
 rw[h.2 i hi]
 exact Int.toNat_natCast i
section
variable {s : List Nat} (h : TriS s) {r : Nat} (hr : r < s.length) {P : List Int} (hP : PlTo P (orderL s r) (sizesL s).length (sizesL s).length)
include h hr hP
theorem PlTo.pl:Place (orderL s r) (plP P):=by
 have:=hP
 rw[←order_len h hr] at this
 exact PlTo.place (V:=(orderL s r).length) this
theorem PlTo.at {x:Nat} (hx:x<s.length):nth P (vtx s x)=(plD s (plP P) x:Int)∧plD s (plP P) x<(sizesL s).length∧vtx s x<(sizesL s).length:=by
 have k1:=place_of h hr (hP.pl h hr) hx
 have k2:(plP P (nth (namesL s) x):Int)=nth P (vtx s x):=by
  have:=hP.2 _ k1.1
  rw[k1.2,vtx_eq h.perm hx] at this
  rw[vtx_eq h.perm hx]
  exact this.symm
 exact⟨k2.symm,k1.1,vtx_lt h.perm hx⟩
end
theorem sumQ_le (f:Nat→Nat) (c:Nat) (h:∀ i,f i≤c):∀ k,sumQ f k≤k*c
 | 0=>Nat.zero_le _
 | k+1=>by have:=sumQ_le f c h k;have:=h k;show sumQ f k+f k≤_;rw[Nat.add_mul];omega
end
section
set_option linter.unusedVariables false
set_option linter.unusedSectionVars false
open Classical in
noncomputable def plC (L:List Int) (v:Int):Nat:=if k:∃ i,i<L.length∧nth L i=v then Classical.choose k else 0
theorem plC_place {L:List Int} (hn:L.Nodup):Place L (plC L):=fun i hi=>by
 have k:∃ j,j<L.length∧nth L j=nth L i:=⟨i,hi,rfl⟩
 have e:plC L (nth L i)=Classical.choose k:=dif_pos k
 obtain⟨k1,k2⟩:=Classical.choose_spec k
 rw[←e] at k1 k2
 generalize plC L (nth L i)=j at k1 k2 ⊢
 rw[nth_at k1,nth_at hi] at k2
 exact nodup_idx hn k1 hi k2
section
variable {s : List Nat} (h : TriS s) {r : Nat} (hr : r < s.length) {pl : Int → Nat} (hp : Place (orderL s r) pl)
include h hr hp
end
section
variable {s : List Nat} (h : TriS s) {r : Nat} (hr : r < s.length)
include h hr
end
end
end Go.Proofs.YtgphnkkdmlohlaaGreat
