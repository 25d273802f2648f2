/- Parentheses matched by a stack: it is a pairing's just if no two of its pairs cross. -/
import Derived.Test.YtklkgicjfnbndaaZGrowKeeps01
namespace Go.Proofs.Ytklkgicjfnbndaa
section
set_option linter.unusedVariables false
def updN (f:Nat→Nat) (x y:Nat):Nat→Nat:=fun j=>if j=x then y else f j
theorem updN_same (f:Nat→Nat) (x y:Nat):updN f x y x=y:=by simp[updN]
theorem updN_other (f:Nat→Nat) (x y:Nat) {j:Nat} (h:j≠x):updN f x y j=f j:=by simp[updN,h]
def stk (op:Nat→Bool):Nat→List Nat × (Nat→Nat)
 | 0=>([],fun _=>0)
 | i+1=>
  if op i=true then (i :: (stk op i).1,(stk op i).2)
  else ((stk op i).1.tail,updN (updN (stk op i).2 i ((stk op i).1.headD 0)) ((stk op i).1.headD 0) i)
theorem stk_open {op:Nat→Bool} {i:Nat} (h:op i=true):stk op (i+1)=(i :: (stk op i).1,(stk op i).2):=by
 show (if op i=true then _ else _)=_
 rw[if_pos h]
theorem stk_close {op:Nat→Bool} {i o:Nat} {r:List Nat} (h:op i=false) (hs:(stk op i).1=o :: r):stk op (i+1)=(r,updN (updN (stk op i).2 i o) o i):=by
 show (if op i=true then _ else _)=_
 rw[if_neg (by simp[h]),hs]
 rfl
structure Pairing (q:Nat) (op:Nat→Bool) (u:Nat→Nat):Prop where
 lt:∀ i,i<q→u i<q
 inv:∀ i,i<q→u (u i)=i
 ne:∀ i,i<q→u i≠i
 op_iff:∀ i,i<q→(op i=true↔i<u i)
def NoCross (q:Nat) (u:Nat→Nat):Prop:=∀ x y,x<q→y<q→x<y→y<u x→x<u y∧u y<u x
def opens (u:Nat→Nat) (i:Nat):Nat→List Nat
 | 0=>[]
 | j+1=>if i≤u j then j :: opens u i j else opens u i j
theorem mem_opens {u:Nat→Nat} {i x:Nat}:∀ {j:Nat},x∈opens u i j↔x<j∧i≤u x
 | 0=>by simp[opens]
 | j+1=>by
  unfold opens
  split
  ·rename_i h
   rw[List.mem_cons,mem_opens]
   constructor
   ·rintro (rfl|h')
    ·exact⟨by omega,h⟩
    ·exact⟨by omega,h'.2⟩
   ·rintro⟨h1,h2⟩
    by_cases e:x=j
    ·exact Or.inl e
    ·exact Or.inr ⟨by omega,h2⟩
  ·rename_i h
   rw[mem_opens]
   constructor
   ·rintro⟨h1,h2⟩;exact⟨by omega,h2⟩
   ·rintro⟨h1,h2⟩
    refine⟨?_,h2⟩
    rcases Nat.lt_or_ge x j with h3|h3
    ·exact h3
    ·obtain rfl:x=j:=by omega
     exact absurd h2 h
theorem opens_head {u:Nat→Nat} {i o:Nat} {r:List Nat}:∀ {j:Nat},opens u i j=o :: r→(∀ x,x<j→i≤u x→x≤o)∧r=opens u i o
 | 0,h=>by simp[opens] at h
 | j+1,h=>by
  unfold opens at h
  split at h
  ·injection h with h1 h2
   subst h1
   exact⟨fun x hx _=>by omega,h2.symm⟩
  ·rename_i hn
   obtain⟨h1,h2⟩:=opens_head h
   refine⟨fun x hx hu=>?_,h2⟩
   rcases Nat.lt_or_ge x j with h3|h3
   ·exact h1 x h3 hu
   ·obtain rfl:x=j:=by omega
    exact absurd hu hn
theorem opens_congr {u:Nat→Nat} {i k:Nat}:∀ {j:Nat},(∀ x,x<j→(i≤u x↔k≤u x))→opens u i j=opens u k j
 | 0,_=>rfl
 | j+1,h=>by
  unfold opens
  rw[opens_congr fun x hx=>h x (by omega)]
  by_cases hi:i≤u j
  ·rw[if_pos hi,if_pos ((h j (by omega)).1 hi)]
  ·rw[if_neg hi,if_neg (fun e=>hi ((h j (by omega)).2 e))]
section
variable {q : Nat} {op : Nat → Bool} {u : Nat → Nat} (hp : Pairing q op u)
include hp
theorem open_some {i:Nat} (hi:i<q) (hc:op i=false):u i<i∧u i∈opens u i i:=by
 have h1:=hp.ne i hi
 have h2:¬ i<u i:=fun h=>by rw[(hp.op_iff i hi).2 h] at hc;cases hc
 refine⟨by omega,mem_opens.2 ⟨by omega,?_⟩⟩
 rw[hp.inv i hi]
 exact Nat.le_refl _
theorem opens_push {i:Nat} (hi:i<q) (ho:op i=true):opens u (i+1) (i+1)=i :: opens u i i:=by
 have h:=(hp.op_iff i hi).1 ho
 show (if i+1≤u i then _ else _)=_
 rw[if_pos (by omega)]
 congr 1
 refine opens_congr fun x hx=>?_
 have:u x≠i:=fun e=>by
  have:=hp.inv x (by omega)
  rw[e] at this
  omega
 omega
theorem opens_pop {i:Nat} (hi:i<q) (hc:op i=false) (hm:opens u i i=u i :: opens u i (u i)):opens u (i+1) (i+1)=opens u i (u i):=by
 obtain⟨h1,_⟩:=open_some hp hi hc
 have hx:∀ x,u i<x→x<i→¬ i≤u x:=fun x h2 h3 h4=>by
  have:=(opens_head hm).1 x h3 h4
  omega
 have key:∀ d,u i+1+d≤i+1→opens u (i+1) (u i+1+d)=opens u (i+1) (u i):=fun d=>by
  induction d with
  | zero=>
   intro _
   show (if i+1≤u (u i) then _ else _)=_
   rw[hp.inv i hi,if_neg (by omega)]
  | succ d ih=>
   intro hd
   rw[←ih (by omega)]
   have hneg:¬ i+1≤u (u i+1+d):=by
    rcases Nat.lt_or_ge (u i+1+d) i with h|h
    ·have:=hx (u i+1+d) (by omega) h
     omega
    ·have e:u i+1+d=i:=by omega
     rw[e];omega
   show (if i+1≤u (u i+1+d) then _ else opens u (i+1) (u i+1+d))=_
   exact if_neg hneg
 have:=key (i-u i) (by omega)
 rw[show u i+1+(i-u i)=i+1 by omega] at this
 rw[this]
 refine opens_congr fun x hx=>?_
 have:u x≠i:=fun e=>by
  have:=hp.inv x (by omega)
  rw[e] at this
  omega
 omega
theorem stk_of_noCross (hn:NoCross q u):∀ i,i≤q→(stk op i).1=opens u i i∧∀ j,j<i→u j<i→(stk op i).2 j=u j
 | 0,_=>⟨rfl,fun j hj=>by omega⟩
 | i+1,hi=>by
  obtain⟨h1,h2⟩:=stk_of_noCross hn i (by omega)
  cases ho:op i with
  | true=>
   rw[stk_open ho]
   refine⟨by rw[opens_push hp (by omega) ho,←h1],fun j hj hu=>?_⟩
   have hio:=(hp.op_iff i (by omega)).1 ho
   have hji:j≠i:=fun e=>by subst e;omega
   have hui:u j≠i:=fun e=>by
    have:=hp.inv j (by omega)
    rw[e] at this
    omega
   exact h2 j (by omega) (by omega)
  | false=>
   obtain⟨h3,h4⟩:=open_some hp (by omega) ho
   obtain⟨o,r,hor⟩:∃ o r,opens u i i=o :: r:=by
    cases h:opens u i i with
    | nil=>rw[h] at h4;cases h4
    | cons o r=>exact⟨o,r,rfl⟩
   have hmax:=(opens_head hor).1
   have hmo:o<i∧i≤u o:=mem_opens.1 (by rw[hor];exact List.mem_cons_self)
   have e:o=u i:=by
    have hle:=hmax (u i) h3 (by rw[hp.inv i (by omega)];exact Nat.le_refl _)
    rcases Nat.lt_or_ge (u i) o with h5|h5
    ·have h6:=hn (u i) o (by omega) (by omega) h5 (by rw[hp.inv i (by omega)];omega)
     rw[hp.inv i (by omega)] at h6
     omega
    ·omega
   have hr:=(opens_head hor).2
   subst e
   rw[stk_close ho (by rw[h1,hor])]
   refine⟨?_,fun j hj hu=>?_⟩
   ·rw[opens_pop hp (by omega) ho (by rw[hor,hr]),←hr]
   ·show updN (updN (stk op i).2 i (u i)) (u i) i j=u j
    by_cases hj1:j=u i
    ·subst hj1
     rw[updN_same,hp.inv i (by omega)]
    ·rw[updN_other _ _ _ hj1]
     by_cases hj2:j=i
     ·subst hj2;rw[updN_same]
     ·rw[updN_other _ _ _ hj2]
      refine h2 j (by omega) ?_
      have:u j≠i:=fun e=>hj1 (by have:=hp.inv j (by omega);rw[e] at this;exact this.symm)
      omega
end
theorem stk_desc {op:Nat→Bool}:∀ i,(stk op i).1.Pairwise (· > ·)∧∀ x∈(stk op i).1,x<i
 | 0=>⟨List.Pairwise.nil,fun x h=>by cases h⟩
 | i+1=>by
  obtain⟨h1,h2⟩:=stk_desc (op:=op) i
  cases ho:op i with
  | true=>
   rw[stk_open ho]
   refine⟨List.Pairwise.cons h2 h1,fun x hx=>?_⟩
   rcases List.mem_cons.1 hx with rfl|h
   ·exact Nat.lt_succ_self _
   ·exact Nat.lt_succ_of_lt (h2 x h)
  | false=>
   cases hs:(stk op i).1 with
   | nil=>
    have e:(stk op (i+1)).1=[]:=by
     show (if op i=true then _ else _:List Nat × (Nat→Nat)).1=_
     rw[if_neg (by simp[ho]),hs]
     rfl
    rw[e]
    exact⟨List.Pairwise.nil,fun x h=>by cases h⟩
   | cons o r=>
    rw[stk_close ho hs]
    rw[hs] at h1 h2
    exact⟨(List.pairwise_cons.1 h1).2,fun x hx=>Nat.lt_succ_of_lt (h2 x (List.mem_cons_of_mem _ hx))⟩
section
variable {q : Nat} {op : Nat → Bool} {u : Nat → Nat} (hp : Pairing q op u)
include hp
theorem stk_len:∀ i,i≤q→(stk op i).1.length=(opens u i i).length
 | 0,_=>rfl
 | i+1,hi=>by
  have ih:=stk_len i (by omega)
  cases ho:op i with
  | true=>
   rw[stk_open ho,opens_push hp (by omega) ho]
   simp[ih]
  | false=>
   obtain⟨h3,h4⟩:=open_some hp (by omega) ho
   have hcount:(opens u (i+1) (i+1)).length+1=(opens u i i).length:=by
    have hrec:∀ j,j≤i→(opens u (i+1) j).length+(if u i<j then 1 else 0)=(opens u i j).length:=fun j=>by
     induction j with
     | zero=>intro _;simp[opens]
     | succ j ihj=>
      intro hj
      have ihj:=ihj (by omega)
      unfold opens
      by_cases e:j=u i
      ·have e1:u j=i:=by rw[e,hp.inv i (by omega)]
       rw[e1,if_neg (by omega),if_pos (Nat.le_refl _),if_pos (by omega),List.length_cons,←ihj,if_neg (by omega)]
      ·have e1:u j≠i:=fun h=>e (by rw[←h,hp.inv j (by omega)])
       have e2:(u i<j+1)↔u i<j:=by omega
       by_cases h:i≤u j
       ·rw[if_pos (show i+1≤u j by omega),if_pos h,List.length_cons,List.length_cons,←ihj]
        by_cases h':u i<j
        ·rw[if_pos h',if_pos (by omega)]
        ·rw[if_neg h',if_neg (by omega)]
       ·rw[if_neg (show ¬ i+1≤u j by omega),if_neg h,←ihj]
        by_cases h':u i<j
        ·rw[if_pos h',if_pos (by omega)]
        ·rw[if_neg h',if_neg (by omega)]
    have h:=hrec i (Nat.le_refl _)
    rw[if_pos h3] at h
    rw[←h]
    congr 2
    show (if i+1≤u i then _ else opens u (i+1) i)=_
    exact if_neg (by omega)
   cases hs:(stk op i).1 with
   | nil=>
    rw[hs] at ih
    rw[←ih] at hcount
    simp at hcount
   | cons o r=>
    rw[stk_close ho hs]
    rw[hs,List.length_cons] at ih
    show r.length=_
    omega
theorem stk_ne (k:Nat) (hk:k<q) (hc:op k=false):(stk op k).1≠[]:=fun e=>by
 have h:=stk_len hp k (by omega)
 obtain⟨_,h4⟩:=open_some hp hk hc
 rw[e] at h
 rw[List.eq_nil_of_length_eq_zero h.symm] at h4
 cases h4
theorem stk_bd:∀ j,j<q→(stk op q).2 j<q:=by
 have H:∀ i,i≤q→∀ j,(stk op i).2 j<q∨q=0:=fun i=>by
  induction i with
  | zero=>intro _ j;show 0<q∨q=0;omega
  | succ i ih=>
   intro hi j
   have ih:=ih (by omega)
   cases ho:op i with
   | true=>rw[stk_open ho];exact ih j
   | false=>
    cases hs:(stk op i).1 with
    | nil=>exact absurd hs (stk_ne hp i (by omega) ho)
    | cons o r=>
     have d2:=(stk_desc (op:=op) i).2 o (by rw[hs];exact List.mem_cons_self)
     rw[stk_close ho hs]
     show updN (updN (stk op i).2 i o) o i j<q∨_
     unfold updN
     split
     ·omega
     ·split
      ·omega
      ·exact ih j
 intro j hj
 rcases H q (Nat.le_refl _) j with h|h
 ·exact h
 ·omega
end
end
section
set_option linter.unusedVariables false
structure PMatch (P:Nat) (S:Nat→Bool) (m:Nat→Nat):Prop where
 lt:∀ j,j<P→m j<P
 inv:∀ j,j<P→m (m j)=j
 ne:∀ j,j<P→m j≠j
 same:∀ j,j<P→S (m j)=S j
def srt (S:Nat→Bool) (P:Nat):List Nat:=(List.range P).filter S
theorem getD_lt {l:List Nat} {i:Nat} (h:i<l.length):l.getD i 0=l[i]:=by simp[List.getD,h]
theorem mem_srt {S:Nat→Bool} {P j:Nat}:j∈srt S P↔j<P∧S j=true:=by
 unfold srt
 rw[List.mem_filter,List.mem_range]
theorem srt_asc (S:Nat→Bool) (P:Nat):(srt S P).Pairwise (· < ·):=List.Pairwise.filter _ List.pairwise_lt_range
theorem srt_lt {S:Nat→Bool} {P i j:Nat} (hj:j<(srt S P).length) (h:i<j):(srt S P).getD i 0<(srt S P).getD j 0:=by
 have:=List.pairwise_iff_getElem.1 (srt_asc S P) i j (by omega) hj h
 rw[getD_lt hj,getD_lt (by omega)]
 exact this
theorem srt_lt_iff {S:Nat→Bool} {P i j:Nat} (hi:i<(srt S P).length) (hj:j<(srt S P).length):(srt S P).getD i 0<(srt S P).getD j 0↔i<j:=by
 constructor
 ·intro h
  rcases Nat.lt_trichotomy i j with h1|h1|h1
  ·exact h1
  ·subst h1;omega
  ·have:=srt_lt hi h1;omega
 ·exact srt_lt hj
theorem srt_inj {S:Nat→Bool} {P i j:Nat} (hi:i<(srt S P).length) (hj:j<(srt S P).length) (h:(srt S P).getD i 0=(srt S P).getD j 0):i=j:=by
 rcases Nat.lt_trichotomy i j with h1|h1|h1
 ·have:=srt_lt hj h1;omega
 ·exact h1
 ·have:=srt_lt hi h1;omega
theorem srt_get {S:Nat→Bool} {P i:Nat} (hi:i<(srt S P).length):(srt S P).getD i 0<P∧S ((srt S P).getD i 0)=true:=by
 rw[getD_lt hi]
 exact mem_srt.1 (List.getElem_mem hi)
theorem srt_idx {S:Nat→Bool} {P j:Nat} (hj:j<P) (hs:S j=true):(srt S P).idxOf j<(srt S P).length∧(srt S P).getD ((srt S P).idxOf j) 0=j:=by
 have h:=List.idxOf_lt_length_of_mem (mem_srt.2 ⟨hj,hs⟩)
 refine⟨h,?_⟩
 rw[getD_lt h]
 exact List.getElem_idxOf h
section
variable {P : Nat} {S : Nat → Bool} {m : Nat → Nat} (hm : PMatch P S m)
include hm
end
end
end Go.Proofs.Ytklkgicjfnbndaa
