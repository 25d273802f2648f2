/- canon.Canon. -/
import Derived.Test.YtgphnkkdmlohlaaGreatDoorZWoodNo23
import Derived.Test.YtgphnkkdmlohlaaGreatDoorZWoodNo17
import Derived.StillTailTactics
import Derived.OwnWalk
import Derived.Test.YtgphnkkdmlohlaaGreatDoorZWoodNo13
import Derived.Test.YtgphnkkdmlohlaaGreatDoorZWoodNo20
import Derived.Test.YtgphnkkdmlohlaaGreatDoorZWoodNo22
import Derived.Deep.RegionHeld3
import Derived.Test.YtgphnkkdmlohlaaGreatDoorZWoodNo10
import Derived.Test.YtgphnkkdmlohlaaGreatDoorZWoodNo08
import Derived.Test.YtgphnkkdmlohlaaGreatDoorZWoodNo14
import Derived.Test.YtgphnkkdmlohlaaGreatDoorZWoodNo01
import Derived.Test.YtgphnkkdmlohlaaGreatDoorZWoodNo21
import Derived.Test.YtgphnkkdmlohlaaGreatDoorZWoodNo05
namespace Go.Proofs.YtgphnkkdmlohlaaGreatDoor
section
open Go.RowKit
set_option linter.unusedVariables false
end
section
open Go.RowKit
set_option linter.unusedVariables false
end
section
open Go.RowKit Go.Maps
set_option linter.unusedVariables false
theorem Ev.boxC3 {R R':Reg} {w0 w':World} {b:Nat} {x y z:Value} {T:TypeId} (hb:w0.heap[b]?=some (.cells #[x,y,z] T (0,0))) (hn:R b=none) (h:Ev R w0 R' w'):
  w'.heap[b]?=some (.cells #[x,y,z] T (0,0))∧R' b=none:=⟨(h.block b (lt_of_block hb) hn).trans hb,h.free b (lt_of_block hb) hn⟩
theorem boxC_cells {w:World} {b:Nat} {x y z:Value} {T:TypeId} (hb:w.heap[b]?=some (.cells #[x,y,z] T (0,0))):w.cell? ⟨b,0,none⟩=some x∧w.cell? ⟨b,1,none⟩=some y∧w.cell? ⟨b,2,none⟩=some z∧∀ o,w.frozen? ⟨b,o,none⟩=false:=
 ⟨cells_at hb 0,cells_at hb 1,cells_at hb 2,fun o=>by simp[World.frozen?,hb]⟩
end
section
open Go.RowKit
set_option linter.unusedVariables false
def listsL (s:List Nat):Nat→List (List Nat)
 | 0=>[]
 | i+1=>if nth (namesL s) i=((listsL s i).length:Int) then listsL s i ++ [orbitL s i] else listsL s i
end
section
open Go.RowKit
set_option linter.unusedVariables false
def layT (v S:List Nat):Nat→List Nat
 | 0=>S
 | i+1=>(layT v S i).set (at' v i) (at' v (nextI v.length i))
def layA (xss:List (List Nat)) (S:List Nat):List Nat:=xss.foldl (fun S v=>layT v S v.length) S
theorem layT_length (v S:List Nat):∀ i,(layT v S i).length=S.length
 | 0=>rfl
 | i+1=>by unfold layT;rw[List.length_set,layT_length v S i]
theorem layA_take {xss:List (List Nat)} {S:List Nat} {k:Nat} (hk:k<xss.length):layA (xss.take (k+1)) S=layT (xss.getD k []) (layA (xss.take k) S) (xss.getD k []).length:=by
 unfold layA
 rw[List.take_succ_eq_append_getElem hk,List.foldl_append]
 simp[List.getD,hk]
end
section
open Go.RowKit
set_option linter.unusedVariables false
section
variable {R0 R R' : Reg} {w0 w w' : World} {b : Nat} {p : Value} {L : List Nat}
end
def behindL (L:List Nat) (d at_:Nat):List Nat:=(L.set d (at' L at_)).set at_ d
end
section
open Go.RowKit
set_option linter.unusedVariables false
def inR (n:Nat) (d:Int):Bool:=decide (0≤d∧d<n)
theorem behindL_length (L:List Nat) (d t:Nat):(behindL L d t).length=L.length:=by simp[behindL]
end
section
open Go.RowKit
set_option linter.unusedVariables false
end
section
open Go.RowKit
set_option linter.unusedVariables false
end
section
set_option linter.unusedVariables false
theorem nodup_inj {α:Type} {l:List α} (h:l.Nodup) {i j:Nat} (hi:i<l.length) (hj:j<l.length) (e:l[i]=l[j]):i=j:=by
 rw[List.nodup_iff_pairwise_ne,List.pairwise_iff_getElem] at h
 rcases Nat.lt_trichotomy i j with h1|h1|h1
 ·exact absurd e (h i j hi hj h1)
 ·exact h1
 ·exact absurd e.symm (h j i hj hi h1)
def starF (s O:List Nat) (j:Nat):Nat:=
 if j<s.length then (if at' s j∈O then s.length+2*O.idxOf (at' s j) else at' s j)
 else if (j-s.length) % 2=0 then at' O ((j-s.length) / 2)
 else s.length+2*(((j-s.length) / 2+O.length-1) % O.length)+1
def starC (s O:List Nat):List Nat:=(List.range (s.length+2*O.length)).map (starF s O)
theorem starC_length (s O:List Nat):(starC s O).length=s.length+2*O.length:=by simp[starC]
theorem starC_at {s O:List Nat} {j:Nat} (h:j<s.length+2*O.length):at' (starC s O) j=starF s O j:=by simp[starC,at',h]
section
variable {s O : List Nat} (hs : IsPerm s) (hO : O.Nodup) (hlt : ∀ x, x ∈ O → x < s.length) (hm : 0 < O.length)
include hs hO hlt hm
end
end
section
set_option linter.unusedVariables false
theorem at_set {S:List Nat} {i j y:Nat} (hj:j<S.length):at' (S.set i y) j=if i=j then y else at' S j:=by
 rw[at'_eq (by rw[List.length_set];exact hj),List.getElem_set]
 by_cases e:i=j
 ·rw[if_pos e,if_pos e]
 ·rw[if_neg e,if_neg e,at'_eq hj]
theorem layT_at {v S:List Nat} (hv:v.Nodup) (hlt:∀ x,x∈v→x<S.length):∀ i,i≤v.length →
  (∀ j,j<i→at' (layT v S i) (at' v j)=at' v (nextI v.length j))∧∀ x,x<S.length→(∀ j,j<i→at' v j≠x)→at' (layT v S i) x=at' S x
 | 0,_=>⟨fun j hj=>by omega,fun x _ _=>rfl⟩
 | i+1,hi=>by
  obtain⟨h1,h2⟩:=layT_at hv hlt i (by omega)
  have hl:=layT_length v S i
  have hin:∀ j,j<v.length→at' v j<S.length:=fun j hj=>hlt _ (by rw[at'_eq hj];exact List.getElem_mem hj)
  refine⟨fun j hj=>?_,fun x hx hn=>?_⟩
  ·show at' ((layT v S i).set (at' v i) (at' v (nextI v.length i))) (at' v j)=_
   rw[at_set (by rw[hl];exact hin j (by omega))]
   by_cases e:j=i
   ·rw[e,if_pos rfl]
   ·have hne:at' v i≠at' v j:=fun he=>by
     rw[at'_eq (by omega),at'_eq (by omega)] at he
     exact e (nodup_inj hv (by omega) (by omega) he).symm
    rw[if_neg hne]
    exact h1 j (by omega)
  ·show at' ((layT v S i).set (at' v i) (at' v (nextI v.length i))) x=_
   rw[at_set (by rw[hl];exact hx),if_neg (hn i (by omega))]
   exact h2 x hx fun j hj=>hn j (by omega)
theorem layA_length (xss:List (List Nat)):∀ S:List Nat,(layA xss S).length=S.length:=by
 induction xss with
 | nil=>exact fun S=>rfl
 | cons v xss ih=>
  intro S
  show (layA xss (layT v S v.length)).length=_
  rw[ih,layT_length]
theorem layA_at:∀ (xss:List (List Nat)) (S:List Nat),xss.flatten.Nodup→(∀ x,x∈xss.flatten→x<S.length) →
  (∀ v,v∈xss→∀ j,j<v.length→at' (layA xss S) (at' v j)=at' v (nextI v.length j))∧∀ x,x<S.length→x∉xss.flatten→at' (layA xss S) x=at' S x
 | [],S,_,_=>⟨fun v hv=>(by cases hv),fun x _ _=>rfl⟩
 | v :: xss,S,hn,hlt=>by
  rw[List.flatten_cons,List.nodup_append] at hn
  obtain⟨n1,n2,n3⟩:=hn
  have hltv:∀ x,x∈v→x<S.length:=fun x hx=>hlt x (by rw[List.flatten_cons];exact List.mem_append_left _ hx)
  obtain⟨a1,a2⟩:=layT_at n1 hltv v.length (Nat.le_refl _)
  obtain⟨b1,b2⟩:=layA_at xss (layT v S v.length) n2 (fun x hx=>by rw[layT_length];exact hlt x (by rw[List.flatten_cons];exact List.mem_append_right _ hx))
  have e:layA (v :: xss) S=layA xss (layT v S v.length):=rfl
  rw[e]
  refine⟨fun u hu j hj=>?_,fun x hx hnx=>?_⟩
  ·rcases List.mem_cons.1 hu with rfl|hu
   ·have hm:at' u j∈u:=by rw[at'_eq hj];exact List.getElem_mem hj
    rw[b2 _ (by rw[layT_length];exact hltv _ hm) (fun h=>n3 _ hm _ h rfl)]
    exact a1 j hj
   ·exact b1 u hu j hj
  ·rw[List.flatten_cons,List.mem_append,not_or] at hnx
   rw[b2 x (by rw[layT_length];exact hx) hnx.2]
   exact a2 x hx fun j hj he=>hnx.1 (by rw[←he,at'_eq hj];exact List.getElem_mem hj)
end
section
set_option linter.unusedVariables false
theorem lists_flat {s:List Nat} (hs:IsPerm s) {r:Nat→Nat→Prop} {cnt:Nat→Nat} (ho:Ord s.length r (namesL s) cnt):∀ i,i≤s.length →
  (listsL s i).length=cnt i∧(listsL s i).flatten.Nodup∧(∀ y,y∈(listsL s i).flatten↔y<s.length∧nth (namesL s) y<(cnt i:Int))∧∀ v,v∈listsL s i→∃ k,k<s.length∧v=orbitL s k
 | 0,_=>by
  refine⟨by rw[ho.zero];rfl,List.nodup_nil,fun y=>?_,fun v hv=>(by cases hv)⟩
  rw[ho.zero]
  constructor
  ·intro h;cases h
  ·rintro⟨h1,h2⟩
   exfalso
   have:=ho.bound h1
   omega
 | i+1,hi=>by
  obtain⟨h1,h2,h3,h4⟩:=lists_flat hs ho i (by omega)
  have e:listsL s (i+1)=if nth (namesL s) i=((listsL s i).length:Int) then listsL s i ++ [orbitL s i] else listsL s i:=rfl
  rcases ho.ord i (by omega) with ⟨o1,o2,o3⟩|⟨o1,o2⟩
  ·rw[e,if_neg (by rw[h1];omega),o3]
   exact⟨h1,h2,h3,h4⟩
  ·have hfl:(listsL s i ++ [orbitL s i]).flatten=(listsL s i).flatten ++ orbitL s i:=by simp
   rw[e,if_pos (by rw[h1];exact o1),o2,hfl]
   have hmo:∀ y,y∈orbitL s i↔y<s.length∧nth (namesL s) y=(cnt i:Int):=fun y=>by rw[names_orbit hs (by omega),o1]
   refine⟨by rw[List.length_append,h1];rfl,?_,fun y=>?_,fun v hv=>?_⟩
   ·rw[List.nodup_append]
    refine⟨h2,orbitL_nodup hs (by omega),fun a ha b hb he=>?_⟩
    subst he
    have x1:=((h3 a).1 ha).2
    have x2:=((hmo a).1 hb).2
    omega
   ·rw[List.mem_append,h3,hmo]
    constructor
    ·rintro (⟨y1,y2⟩|⟨y1,y2⟩)
     ·exact⟨y1,by omega⟩
     ·exact⟨y1,by omega⟩
    ·rintro⟨y1,y2⟩
     by_cases he:nth (namesL s) y=(cnt i:Int)
     ·exact Or.inr ⟨y1,he⟩
     ·exact Or.inl ⟨y1,by omega⟩
   ·rcases List.mem_append.1 hv with hv|hv
    ·exact h4 v hv
    ·exact⟨i,by omega,List.mem_singleton.1 hv⟩
theorem lists_all {s:List Nat} (hs:IsPerm s):(listsL s s.length).flatten.Nodup∧(∀ y,y∈(listsL s s.length).flatten↔y<s.length)∧∀ v,v∈listsL s s.length→∃ k,k<s.length∧v=orbitL s k:=by
 have ho:=namesL_ord hs
 obtain⟨h1,h2,h3,h4⟩:=lists_flat hs ho s.length (Nat.le_refl _)
 refine⟨h2,fun y=>?_,h4⟩
 rw[h3]
 refine⟨fun h=>h.1,fun h=>⟨h,?_⟩⟩
 have hb:=ho.bound h
 have hm:=ho.mono (k:=y+1) (l:=s.length) (by omega) (Nat.le_refl _)
 omega
end
section
set_option linter.unusedVariables false
structure RowsOf (xss:List (List Nat)) (T:List Nat):Prop where
 nd:xss.flatten.Nodup
 mem:∀ y,y∈xss.flatten↔y<T.length
 next:∀ v,v∈xss→∀ j,j<v.length→at' T (at' v j)=at' v (nextI v.length j)
theorem lists_rows {s:List Nat} (hs:IsPerm s):RowsOf (listsL s s.length) s:=by
 obtain⟨h1,h2,h3⟩:=lists_all hs
 refine⟨h1,h2,fun v hv j hj=>?_⟩
 obtain⟨k,hk,rfl⟩:=h3 v hv
 obtain⟨c,hc,hcl,he⟩:=orbitL_map hs hk
 have hl:(orbitL s k).length=c:=by rw[he];simp
 have ha:∀ j,j<c→at' (orbitL s k) j=it s j k:=fun j hj=>by rw[he];simp[at',hj]
 have hsucc:∀ j,it s (j+1) k=at' s (it s j k):=fun j=>by rw[it_itf,it_itf,itf_succ]
 rw[hl] at hj ⊢
 unfold nextI
 by_cases e:j+1<c
 ·rw[if_pos e,ha j hj,ha _ e,hsucc]
 ·rw[if_neg e,ha j hj,ha 0 hc,←hsucc,show j+1=c by omega,hcl]
  rfl
end
section
set_option linter.unusedVariables false
def Cy (f:Nat→Nat) (v:List Nat):Prop:=∀ j,j<v.length→f (at' v j)=at' v (nextI v.length j)
def insF (f:Nat→Nat) (t d x:Nat):Nat:=if x=t then d else if x=d then f t else f x
theorem at_ins {A B:List Nat} {t d:Nat} (j:Nat):at' (A ++ t :: d :: B) j=if j≤A.length then at' (A ++ t :: B) j else if j=A.length+1 then d else at' (A ++ t :: B) (j-1):=by
 unfold at'
 simp only[List.getD_eq_getElem?_getD]
 congr 1
 by_cases h1:j<A.length
 ·rw[if_pos (by omega),List.getElem?_append_left h1,List.getElem?_append_left h1]
 ·rw[List.getElem?_append_right (by omega)]
  by_cases h2:j=A.length
  ·subst h2;simp
  ·rw[if_neg (by omega)]
   by_cases h3:j=A.length+1
   ·subst h3;simp
   ·rw[if_neg h3,List.getElem?_append_right (by omega)]
    obtain⟨k,rfl⟩:∃ k,j=A.length+2+k:=⟨j-(A.length+2),by omega⟩
    rw[show A.length+2+k-A.length=k+2 by omega,show A.length+2+k-1-A.length=k+1 by omega]
    simp
theorem flat_ins {A B:List Nat} {t d:Nat} (hA:t∉A) (hB:t∉B):(A ++ t :: B).flatMap (aftF t d)=A ++ t :: d :: B:=by
 have key:∀ l:List Nat,t∉l→l.flatMap (aftF t d)=l:=fun l hl=>by
  induction l with
  | nil=>rfl
  | cons x l ih=>
   simp only[List.mem_cons,not_or] at hl
   rw[List.flatMap_cons,ih hl.2]
   unfold aftF
   rw[if_neg (fun e=>hl.1 e.symm)]
   rfl
 rw[List.flatMap_append,List.flatMap_cons,key A hA,key B hB]
 unfold aftF
 rw[if_pos rfl]
 rfl
theorem flat_same {v:List Nat} {t d:Nat} (h:t∉v):v.flatMap (aftF t d)=v:=by
 induction v with
 | nil=>rfl
 | cons x l ih=>
  simp only[List.mem_cons,not_or] at h
  rw[List.flatMap_cons,ih h.2]
  unfold aftF
  rw[if_neg (fun e=>h.1 e.symm)]
  rfl
theorem Cy.ins {f:Nat→Nat} {A B:List Nat} {t d:Nat} (h:Cy f (A ++ t :: B)) (hn:(A ++ t :: B).Nodup) (hd:d∉A ++ t :: B):Cy (insF f t d) (A ++ t :: d :: B):=by
 have hl:(A ++ t :: B).length=A.length+B.length+1:=by simp;omega
 have hl2:(A ++ t :: d :: B).length=A.length+B.length+2:=by simp;omega
 have hat:at' (A ++ t :: B) A.length=t:=by simp[at',List.getD]
 have hmem:∀ i,i<A.length+B.length+1→at' (A ++ t :: B) i≠d:=fun i hi e=>hd (by rw[←e,at'_eq (by rw[hl];exact hi)];exact List.getElem_mem _)
 have hnt:∀ i,i<A.length+B.length+1→i≠A.length→at' (A ++ t :: B) i≠t:=fun i hi hne e=>by
  have e2:at' (A ++ t :: B) i=at' (A ++ t :: B) A.length:=e.trans hat.symm
  rw[at'_eq (by rw[hl];exact hi),at'_eq (by rw[hl];omega)] at e2
  exact hne (nodup_inj hn _ _ e2)
 have hnx:∀ i,i<A.length+B.length+1→f (at' (A ++ t :: B) i)=at' (A ++ t :: B) (nextI (A.length+B.length+1) i):=fun i hi=>by
  have:=h i (by rw[hl];exact hi)
  rw[hl] at this
  exact this
 intro j hj
 rw[hl2] at hj ⊢
 have lo:∀ i,i≤A.length→at' (A ++ t :: d :: B) i=at' (A ++ t :: B) i:=fun i hi=>by rw[at_ins,if_pos hi]
 have mi:at' (A ++ t :: d :: B) (A.length+1)=d:=by rw[at_ins,if_neg (by omega),if_pos rfl]
 have hi':∀ i,A.length+1<i→at' (A ++ t :: d :: B) i=at' (A ++ t :: B) (i-1):=fun i hi=>by rw[at_ins,if_neg (by omega),if_neg (by omega)]
 have nx:∀ m i,i+1<m→nextI m i=i+1:=fun m i hi=>by unfold nextI;rw[if_pos hi]
 have nz:∀ m i,¬ i+1<m→nextI m i=0:=fun m i hi=>by unfold nextI;rw[if_neg hi]
 by_cases h1:j<A.length
 ·rw[lo j (by omega),nx _ j (by omega),lo (j+1) (by omega)]
  unfold insF
  rw[if_neg (hnt j (by omega) (by omega)),if_neg (hmem j (by omega)),hnx j (by omega),nx _ j (by omega)]
 ·by_cases h2:j=A.length
  ·rw[h2,lo _ (Nat.le_refl _),hat,nx _ _ (by omega),mi]
   unfold insF
   rw[if_pos rfl]
  ·by_cases h3:j=A.length+1
   ·have hdt:d≠t:=fun e=>hmem A.length (by omega) (by rw[hat,e])
    have h5:=hnx A.length (by omega)
    rw[hat] at h5
    rw[h3,mi]
    unfold insF
    rw[if_neg hdt,if_pos rfl,h5]
    by_cases h4:A.length+1<A.length+B.length+1
    ·rw[nx _ _ h4,nx _ _ (by omega),hi' _ (by omega)]
     rfl
    ·rw[nz _ _ h4,nz _ _ (by omega),lo 0 (by omega)]
   ·rw[hi' j (by omega)]
    unfold insF
    rw[if_neg (hnt (j-1) (by omega) (by omega)),if_neg (hmem (j-1) (by omega)),hnx (j-1) (by omega)]
    by_cases h4:j+1<A.length+B.length+2
    ·rw[nx _ _ (by omega),nx _ j h4,hi' _ (by omega)]
     congr 1
     omega
    ·rw[nz _ _ (by omega),nz _ j h4,lo 0 (by omega)]
end
section
set_option linter.unusedVariables false
def Ch (f:Nat→Nat):Nat→List Nat→Nat→Prop
 | a,[],b=>f a=b
 | a,x :: l,b=>f a=x∧Ch f x l b
theorem Ch.app {f:Nat→Nat} {x:Nat} {m:List Nat} {b:Nat}:∀ {l:List Nat} {a:Nat},Ch f a (l ++ x :: m) b↔Ch f a l x∧Ch f x m b
 | [],a=>Iff.rfl
 | y :: l,a=>by
  show (f a=y∧Ch f y (l ++ x :: m) b)↔(f a=y∧Ch f y l x)∧_
  rw[Ch.app,and_assoc]
theorem Ch.iff {f:Nat→Nat} {b:Nat}:∀ {l:List Nat} {a:Nat},Ch f a l b↔∀ j,j<l.length+1→f (at' (a :: l) j)=if j<l.length then at' (a :: l) (j+1) else b
 | [],a=>by
  constructor
  ·intro h j hj
   obtain rfl:j=0:=by simp at hj;exact hj
   exact h
  ·intro h;exact h 0 (by simp)
 | x :: l,a=>by
  constructor
  ·rintro⟨h1,h2⟩ j hj
   cases j with
   | zero=>rw[if_pos (by simp)];exact h1
   | succ j=>
    have h3:=Ch.iff.1 h2 j (by simp at hj ⊢;omega)
    have e:(if j+1<(x :: l).length then at' (a :: x :: l) (j+1+1) else b)=if j<l.length then at' (x :: l) (j+1) else b:=by
     by_cases h:j<l.length
     ·rw[if_pos h,if_pos (by simp;omega)];rfl
     ·rw[if_neg h,if_neg (by simp;omega)]
    rw[e,←h3];rfl
  ·intro h
   refine⟨?_,Ch.iff.2 fun j hj=>?_⟩
   ·have:=h 0 (by simp)
    rw[if_pos (by simp)] at this
    exact this
   ·have h3:=h (j+1) (by simp;omega)
    have e:(if j+1<(x :: l).length then at' (a :: x :: l) (j+1+1) else b)=if j<l.length then at' (x :: l) (j+1) else b:=by
     by_cases h:j<l.length
     ·rw[if_pos h,if_pos (by simp;omega)];rfl
     ·rw[if_neg h,if_neg (by simp;omega)]
    rw[e] at h3
    exact h3
theorem Cy.ch {f:Nat→Nat} {x:Nat} {l:List Nat}:Cy f (x :: l)↔Ch f x l x:=by
 rw[Ch.iff]
 unfold Cy nextI
 constructor
 ·intro h j hj
  rw[h j (by simp;omega)]
  by_cases e:j<l.length
  ·rw[if_pos e,if_pos (by simp;omega)]
  ·rw[if_neg e,if_neg (by simp;omega)];rfl
 ·intro h j hj
  rw[h j (by simpa using hj)]
  by_cases e:j<l.length
  ·rw[if_pos e,if_pos (by simp;omega)]
  ·rw[if_neg e,if_neg (by simp;omega)];rfl
theorem Ch.congr {f g:Nat→Nat} {b:Nat}:∀ {l:List Nat} {a:Nat},Ch f a l b→(∀ y,y∈a :: l→g y=f y)→Ch g a l b
 | [],a,h,hg=>(hg a (List.mem_cons_self ..)).trans h
 | x :: l,a,h,hg=>⟨(hg a (List.mem_cons_self ..)).trans h.1,Ch.congr h.2 fun y hy=>hg y (List.mem_cons_of_mem _ hy)⟩
theorem Ch.vals {f:Nat→Nat} {b:Nat}:∀ {l:List Nat} {a:Nat},Ch f a l b→∀ y,y∈a :: l→f y∈l∨f y=b
 | [],a,h,y,hy=>by
  rw[List.mem_singleton] at hy
  subst hy
  exact Or.inr h
 | x :: l,a,h,y,hy=>by
  rcases List.mem_cons.1 hy with rfl|hy
  ·rw[h.1];exact Or.inl (List.mem_cons_self ..)
  ·rcases Ch.vals h.2 y hy with h3|h3
   ·exact Or.inl (List.mem_cons_of_mem _ h3)
   ·exact Or.inr h3
theorem Ch.last {f g:Nat→Nat} {b c:Nat}:∀ {l:List Nat} {a:Nat},Ch f a l b→b∉l→(∀ y,y∈a :: l→f y≠b→g y=f y)→(∀ y,y∈a :: l→f y=b→g y=c)→Ch g a l c
 | [],a,h,_,_,h2=>h2 a (List.mem_cons_self ..) h
 | x :: l,a,h,hb,h1,h2=>by
  rw[List.mem_cons,not_or] at hb
  refine⟨(h1 a (List.mem_cons_self ..) (by rw[h.1];exact fun e=>hb.1 e.symm)).trans h.1,Ch.last h.2 hb.2 (fun y hy=>h1 y (List.mem_cons_of_mem _ hy)) (fun y hy=>h2 y (List.mem_cons_of_mem _ hy))⟩
def delF (f:Nat→Nat) (d x:Nat):Nat:=if f x=d then f d else f x
theorem Cy.nil (f:Nat→Nat):Cy f []:=fun j hj=>by cases hj
theorem Cy.congr {f g:Nat→Nat} {v:List Nat} (h:Cy f v) (hg:∀ y,y∈v→g y=f y):Cy g v:=fun j hj=>by
 rw[←h j hj]
 exact hg _ (by rw[at'_eq hj];exact List.getElem_mem hj)
theorem Cy.del {f:Nat→Nat} {A B:List Nat} {d:Nat} (h:Cy f (A ++ d :: B)) (hn:(A ++ d :: B).Nodup):Cy (delF f d) (A ++ B):=by
 rw[List.nodup_append] at hn
 obtain⟨n1,n2,n3⟩:=hn
 rw[List.nodup_cons] at n2
 have ne:∀ y,f y≠d→delF f d y=f y:=fun y hy=>by unfold delF;rw[if_neg hy]
 have eq:∀ y,f y=d→delF f d y=f d:=fun y hy=>by unfold delF;rw[if_pos hy]
 cases A with
 | nil=>
  cases B with
  | nil=>exact Cy.nil _
  | cons x B=>
   have h1:=Cy.ch.1 h
   refine Cy.ch.2 (Ch.last h1.2 (fun hm=>n2.1 (List.mem_cons_of_mem _ hm)) (fun y _ hy=>ne y hy) fun y _ hy=>?_)
   rw[eq y hy]
   exact h1.1
 | cons a A=>
  have h1:Ch f a (A ++ d :: B) a:=Cy.ch.1 h
  rw[Ch.app] at h1
  have hda:d∉A:=fun hm=>n3 d (List.mem_cons_of_mem _ hm) d (List.mem_cons_self ..) rfl
  have hdx:d≠a:=fun e=>n3 a (List.mem_cons_self ..) d (List.mem_cons_self ..) e.symm
  cases B with
  | nil=>
   rw[List.append_nil]
   refine Cy.ch.2 (Ch.last h1.1 hda (fun y _ hy=>ne y hy) fun y _ hy=>?_)
   rw[eq y hy]
   exact h1.2
  | cons x B=>
   refine Cy.ch.2 (Ch.app.2 ⟨Ch.last h1.1 hda (fun y _ hy=>ne y hy) fun y _ hy=>?_,Ch.congr h1.2.2 fun y hy=>ne y fun e=>?_⟩)
   ·rw[eq y hy];exact h1.2.1
   ·rcases Ch.vals h1.2.2 y hy with h3|h3
    ·rw[e] at h3;exact n2.1 (List.mem_cons_of_mem _ h3)
    ·exact hdx (e.symm.trans h3)
structure RowsF (xss:List (List Nat)) (D:Nat→Prop) (f:Nat→Nat):Prop where
 nd:xss.flatten.Nodup
 mem:∀ y,y∈xss.flatten↔D y
 next:∀ v,v∈xss→Cy f v
theorem RowsF.congr {xss:List (List Nat)} {D E:Nat→Prop} {f g:Nat→Nat} (h:RowsF xss D f) (hD:∀ y,D y↔E y) (hg:∀ y,D y→g y=f y):RowsF xss E g:=
 ⟨h.nd,fun y=>(h.mem y).trans (hD y),fun v hv=>(h.next v hv).congr fun y hy=>hg y ((h.mem y).1 (List.mem_flatten.2 ⟨v,hv,hy⟩))⟩
theorem outL_flat (f:Nat→List Nat):∀ xss:List (List Nat),(outL f xss).flatten=xss.flatten.flatMap f
 | []=>rfl
 | v :: xss=>by
  show (v.flatMap f :: outL f xss).flatten=_
  rw[List.flatten_cons,outL_flat f xss,List.flatten_cons,List.flatMap_append]
theorem flat_wit (d:Nat):∀ v:List Nat,v.flatMap (witF d)=v.filter (fun x=>decide (x≠d))
 | []=>rfl
 | x :: v=>by
  rw[List.flatMap_cons,flat_wit d v]
  unfold witF
  by_cases h:x=d
  ·rw[if_pos h,List.filter_cons_of_neg (by simp[h])];rfl
  ·rw[if_neg h,List.filter_cons_of_pos (by simp[h])];rfl
theorem RowsF.rowNd {xss:List (List Nat)} {D:Nat→Prop} {f:Nat→Nat} (h:RowsF xss D f) {v:List Nat} (hv:v∈xss):v.Nodup:=(List.sublist_flatten_of_mem hv).nodup h.nd
theorem RowsF.after {xss:List (List Nat)} {D:Nat→Prop} {f:Nat→Nat} (h:RowsF xss D f) {t d:Nat} (ht:D t) (hd:¬ D d):RowsF (outL (aftF t d) xss) (fun y=>D y∨y=d) (insF f t d):=by
 obtain⟨A,B,hAB⟩:=List.append_of_mem ((h.mem t).2 ht)
 have hn:=h.nd
 have hdf:d∉xss.flatten:=fun hm=>hd ((h.mem d).1 hm)
 rw[hAB] at hn hdf
 have hn2:=hn
 rw[List.nodup_append,List.nodup_cons] at hn2
 obtain⟨_,⟨m1,_⟩,m3⟩:=hn2
 have hfl:(outL (aftF t d) xss).flatten=A ++ t :: d :: B:=by
  rw[outL_flat,hAB]
  exact flat_ins (fun hm=>m3 t hm t (List.mem_cons_self ..) rfl) m1
 have hp:(A ++ t :: d :: B).Perm (d :: (A ++ t :: B)):=by
  have:A ++ t :: d :: B=(A ++ [t]) ++ d :: B:=by simp
  rw[this]
  refine List.perm_middle.trans (List.Perm.of_eq ?_)
  simp
 refine⟨?_,fun y=>?_,fun v hv=>?_⟩
 ·rw[hfl,hp.nodup_iff,List.nodup_cons]
  exact⟨hdf,hn⟩
 ·rw[hfl,hp.mem_iff,List.mem_cons,←hAB,h.mem]
  exact or_comm
 ·unfold outL at hv
  obtain⟨u,hu,rfl⟩:=List.mem_map.1 hv
  have hun:=h.rowNd hu
  have hud:d∉u:=fun hm=>hd ((h.mem d).1 (List.mem_flatten.2 ⟨u,hu,hm⟩))
  by_cases htu:t∈u
  ·obtain⟨P,Q,rfl⟩:=List.append_of_mem htu
   have hk:=hun
   rw[List.nodup_append,List.nodup_cons] at hk
   rw[flat_ins (fun hm=>hk.2.2 t hm t (List.mem_cons_self ..) rfl) hk.2.1.1]
   exact (h.next _ hu).ins hun hud
  ·rw[flat_same htu]
   refine (h.next _ hu).congr fun y hy=>?_
   unfold insF
   rw[if_neg (fun (e:y=t)=>htu (by rw[←e];exact hy)),if_neg (fun (e:y=d)=>hud (by rw[←e];exact hy))]
theorem RowsF.without {xss:List (List Nat)} {D:Nat→Prop} {f:Nat→Nat} (h:RowsF xss D f) (d:Nat):RowsF (outL (witF d) xss) (fun y=>D y∧y≠d) (delF f d):=by
 refine⟨?_,fun y=>?_,fun v hv=>?_⟩
 ·rw[outL_flat,flat_wit]
  exact h.nd.sublist List.filter_sublist
 ·rw[outL_flat,flat_wit,List.mem_filter,h.mem]
  simp
 ·unfold outL at hv
  obtain⟨u,hu,rfl⟩:=List.mem_map.1 hv
  have hun:=h.rowNd hu
  rw[flat_wit]
  have key:∀ l:List Nat,d∉l→l.filter (fun x=>decide (x≠d))=l:=fun l hl=>List.filter_eq_self.2 fun x hx=>by
   simp only[decide_eq_true_eq]
   exact fun (e:x=d)=>hl (by rw[←e];exact hx)
  by_cases hdu:d∈u
  ·obtain⟨P,Q,rfl⟩:=List.append_of_mem hdu
   have hk:=hun
   rw[List.nodup_append,List.nodup_cons] at hk
   rw[List.filter_append,List.filter_cons_of_neg (by simp),key P (fun hm=>hk.2.2 d hm d (List.mem_cons_self ..) rfl),key Q hk.2.1.1]
   exact (h.next _ hu).del hun
  ·rw[key u hdu]
   refine (h.next _ hu).congr fun y hy=>?_
   unfold delF
   obtain⟨j,hj,rfl⟩:=List.getElem_of_mem hy
   have hnx:=h.next u hu j hj
   rw[at'_eq hj] at hnx
   have hm:f u[j]∈u:=by
    rw[hnx,at'_eq (by unfold nextI;split <;> omega)]
    exact List.getElem_mem _
   rw[if_neg (fun (e:f u[j]=d)=>hdu (by rw[←e];exact hm))]
theorem RowsF.more {xss:List (List Nat)} {D:Nat→Prop} {f g:Nat→Nat} (h:RowsF xss D f) {v:List Nat} (hv:v.Nodup) (hx:∀ x,x∈v→¬ D x) (hc:Cy g v) (hg:∀ x,D x→g x=f x):RowsF (xss ++ [v]) (fun y=>D y∨y∈v) g:=by
 have hf:(xss ++ [v]).flatten=xss.flatten ++ v:=by simp
 refine⟨?_,fun y=>?_,fun u hu=>?_⟩
 ·rw[hf,List.nodup_append]
  refine⟨h.nd,hv,fun a ha b hb e=>hx b hb ?_⟩
  rw[←e]
  exact (h.mem a).1 ha
 ·rw[hf,List.mem_append,h.mem]
 ·rcases List.mem_append.1 hu with hu|hu
  ·exact (h.next u hu).congr fun y hy=>hg y ((h.mem y).1 (List.mem_flatten.2 ⟨u,hu,hy⟩))
  ·rw[List.mem_singleton] at hu
   subst hu
   exact hc
theorem RowsF.rows {xss:List (List Nat)} {D:Nat→Prop} {f:Nat→Nat} (h:RowsF xss D f) {T:List Nat} (hD:∀ y,D y↔y<T.length) (hf:∀ y,y<T.length→at' T y=f y):RowsOf xss T:=by
 have h2:=h.congr hD (fun y hy=>hf y ((hD y).1 hy))
 exact⟨h2.nd,h2.mem,fun v hv=>h2.next v hv⟩
theorem lists_rowsF {s:List Nat} (hs:IsPerm s):RowsF (listsL s s.length) (· < s.length) (at' s):=by
 have h:=lists_rows hs
 exact⟨h.nd,h.mem,fun v hv=>h.next v hv⟩
end
section
set_option linter.unusedVariables false
theorem mem_take_succ {O:List Nat} {i x:Nat} (hi:i<O.length):x∈O.take (i+1)↔x∈O.take i∨x=at' O i:=by
 rw[List.take_succ_eq_append_getElem hi,List.mem_append,List.mem_singleton,at'_eq hi]
theorem not_mem_take {O:List Nat} (hO:O.Nodup) {i:Nat} (hi:i<O.length):at' O i∉O.take i:=fun h=>by
 obtain⟨k,hk,e⟩:=List.getElem_of_mem h
 rw[List.getElem_take] at e
 rw[List.length_take] at hk
 have:=nodup_inj hO (i:=k) (j:=i) (by omega) hi (by rw[e,at'_eq hi])
 omega
theorem idx_at {O:List Nat} (hO:O.Nodup) {i:Nat} (hi:i<O.length):O.idxOf (at' O i)=i:=by
 have hm:at' O i∈O:=by rw[at'_eq hi];exact List.getElem_mem hi
 have h:=List.idxOf_lt_length_of_mem hm
 exact nodup_inj hO h hi (by rw[List.getElem_idxOf h,at'_eq hi])
def putF (s O:List Nat) (i j:Nat):Nat:=
 if j<s.length then (if at' s j∈O.take i then s.length+2*O.idxOf (at' s j) else at' s j)
 else if (j-s.length) / 2<i then starF s O j else 0
def putG (s O:List Nat) (i:Nat):List Nat:=(List.range (s.length+2*O.length)).map (putF s O i)
theorem putG_length (s O:List Nat) (i:Nat):(putG s O i).length=s.length+2*O.length:=by simp[putG]
theorem putG_zero (s O:List Nat):putG s O 0=s ++ List.replicate (2*O.length) 0:=by
 refine List.ext_getElem (by simp[putG]) fun j h1 h2=>?_
 have hj:j<s.length+2*O.length:=by simpa [putG] using h1
 simp only[putG,List.getElem_map,List.getElem_range,putF]
 by_cases hs:j<s.length
 ·rw[if_pos hs,if_neg (by simp),List.getElem_append_left hs,at'_eq hs]
 ·rw[if_neg hs,if_neg (by omega),List.getElem_append_right (by omega)]
  simp
theorem putG_all (s O:List Nat):putG s O O.length=starC s O:=by
 refine List.ext_getElem (by rw[putG_length,starC_length]) fun j h1 h2=>?_
 have hj:j<s.length+2*O.length:=by simpa [putG] using h1
 simp only[putG,starC,List.getElem_map,List.getElem_range,putF]
 by_cases hs:j<s.length
 ·rw[if_pos hs,List.take_length]
  unfold starF
  rw[if_pos hs]
 ·rw[if_neg hs,if_pos (by omega)]
theorem putG_step {s O:List Nat} (hs:IsPerm s) (hO:O.Nodup) {i bf:Nat} (hi:i<O.length) (hb:bf<s.length) (hbs:at' s bf=at' O i):
  (((putG s O i).set bf (s.length+2*i)).set (s.length+2*i) (at' O i)).set (s.length+2*i+1) (s.length+2*((i+O.length-1) % O.length)+1)=putG s O (i+1):=by
 refine List.ext_getElem (by simp[putG]) fun j h1 h2=>?_
 have hj:j<s.length+2*O.length:=by simpa [putG] using h2
 rw[List.getElem_set,List.getElem_set,List.getElem_set]
 simp only[putG,List.getElem_map,List.getElem_range,putF]
 by_cases hjs:j<s.length
 ·rw[if_neg (by omega),if_neg (by omega),if_pos hjs,if_pos hjs]
  by_cases e:bf=j
  ·subst e
   rw[if_pos rfl,hbs,if_pos ((mem_take_succ hi).2 (Or.inr rfl)),idx_at hO hi]
  ·rw[if_neg e]
   have hne:at' s j≠at' O i:=fun h=>e (hs.inj hb hjs (by rw[hbs,h]))
   by_cases hm:at' s j∈O.take i
   ·rw[if_pos hm,if_pos ((mem_take_succ hi).2 (Or.inl hm))]
   ·rw[if_neg hm,if_neg (fun h=>((mem_take_succ hi).1 h).elim hm hne)]
 ·rw[if_neg hjs,if_neg hjs]
  by_cases e1:s.length+2*i+1=j
  ·rw[if_pos e1,if_pos (by omega)]
   subst e1
   unfold starF
   rw[if_neg hjs,if_neg (by omega),show (s.length+2*i+1-s.length) / 2=i by omega]
  ·rw[if_neg e1]
   by_cases e2:s.length+2*i=j
   ·rw[if_pos e2,if_pos (by omega)]
    subst e2
    unfold starF
    rw[if_neg hjs,if_pos (by omega),show (s.length+2*i-s.length) / 2=i by omega]
   ·rw[if_neg e2,if_neg (by omega)]
    by_cases h3:(j-s.length) / 2<i
    ·rw[if_pos h3,if_pos (by omega)]
    ·rw[if_neg h3,if_neg (by omega)]
def stF (s O:List Nat) (i j:Nat):Nat:=
 if j<s.length then (if at' s j∈O.take i then s.length+2*O.idxOf (at' s j) else at' s j)
 else if (j-s.length) % 2=0 then at' O ((j-s.length) / 2)
 else if (j-s.length) / 2=0 then s.length+2*(i-1)+1 else s.length+2*((j-s.length) / 2-1)+1
theorem stF_old {s O:List Nat} {i j:Nat} (h:j<s.length):stF s O i j=if at' s j∈O.take i then s.length+2*O.idxOf (at' s j) else at' s j:=by
 unfold stF;rw[if_pos h]
theorem stF_even {s O:List Nat} {i j:Nat} (h:¬ j<s.length) (h2:(j-s.length) % 2=0):stF s O i j=at' O ((j-s.length) / 2):=by
 unfold stF;rw[if_neg h,if_pos h2]
end
section
open Go.RowKit
set_option linter.unusedVariables false
def flipL (s:List Nat) (d:Nat):List Nat:=
 let m:=d ^^^ 1
 let a:=at' (invL s) (at' (phiL s) (at' (phiL s) d))
 let b:=at' (invL s) (at' (phiL s) (at' (phiL s) m))
 let L1:=(s.set (at' (invL s) d) (at' s d)).set (at' (invL s) m) (at' s m)
 behindL ((behindL (L1.set d d) d a).set m m) m b
end
section
set_option linter.unusedVariables false
theorem insF_congr {f g:Nat→Nat} {t d x:Nat} (h1:f t=g t) (h2:x≠t→x≠d→f x=g x):insF f t d x=insF g t d x:=by
 unfold insF
 by_cases e:x=t
 ·rw[if_pos e,if_pos e]
 ·rw[if_neg e,if_neg e]
  by_cases e2:x=d
  ·rw[if_pos e2,if_pos e2,h1]
  ·rw[if_neg e2,if_neg e2,h2 e e2]
theorem behind_at {L:List Nat} {d t x:Nat} (hx:x<L.length):at' (behindL L d t) x=insF (at' L) t d x:=by
 unfold behindL insF
 rw[at_set (by rw[List.length_set];exact hx),at_set hx]
 by_cases h:t=x
 ·rw[if_pos h,if_pos h.symm]
 ·rw[if_neg h,if_neg (show ¬ x=t from fun e=>h e.symm)]
  by_cases h2:d=x
  ·rw[if_pos h2,if_pos h2.symm]
  ·rw[if_neg h2,if_neg (show ¬ x=d from fun e=>h2 e.symm)]
def starLs (s O:List Nat):Nat→List (List Nat)
 | 0=>listsL s s.length
 | i+1=>outL (aftF (at' (invL s) (at' O i)) (s.length+2*i)) (starLs s O i)
def hubL (n:Nat):Nat→List Nat
 | 0=>[]
 | i+1=>(n+2*i+1) :: hubL n i
theorem hubL_length (n:Nat):∀ i,(hubL n i).length=i
 | 0=>rfl
 | i+1=>by unfold hubL;rw[List.length_cons,hubL_length n i]
theorem hubL_at (n:Nat):∀ {i j:Nat},j<i→at' (hubL n i) j=n+2*(i-1-j)+1
 | i+1,0,_=>by show n+2*i+1=_;simp
 | i+1,j+1,h=>by
  show at' (hubL n i) j=_
  rw[hubL_at n (by omega),show i+1-1-(j+1)=i-1-j by omega]
theorem hubL_mem (n:Nat):∀ {i x:Nat},x∈hubL n i↔∃ j,j<i∧x=n+2*j+1
 | 0,x=>⟨fun h=>(by cases h),fun ⟨j,h,_⟩=>(by omega)⟩
 | i+1,x=>by
  unfold hubL
  rw[List.mem_cons,hubL_mem n]
  constructor
  ·rintro (h|⟨j,h1,h2⟩)
   ·exact⟨i,by omega,h⟩
   ·exact⟨j,by omega,h2⟩
  ·rintro⟨j,h1,h2⟩
   by_cases h:j=i
   ·exact Or.inl (h ▸ h2)
   ·exact Or.inr ⟨j,by omega,h2⟩
theorem hubL_nodup (n:Nat):∀ i,(hubL n i).Nodup
 | 0=>List.nodup_nil
 | i+1=>by
  unfold hubL
  rw[List.nodup_cons,hubL_mem]
  exact⟨fun ⟨j,h1,h2⟩=>by omega,hubL_nodup n i⟩
theorem starLs_rows {s O:List Nat} (hs:IsPerm s) (hO:O.Nodup) (hlt:∀ x,x∈O→x<s.length):∀ i,i≤O.length→RowsF (starLs s O i) (fun y=>y<s.length∨∃ j,j<i∧y=s.length+2*j) (stF s O i)
 | 0,_=>(lists_rowsF hs).congr (fun y=>⟨Or.inl,fun h=>h.elim id fun ⟨j,h,_⟩=>by omega⟩) fun y hy=>by
  rw[stF_old hy,if_neg (by simp)]
 | i+1,hi=>by
  have ih:=starLs_rows hs hO hlt i (by omega)
  have hil:i<O.length:=by omega
  have hx:=hlt (at' O i) (by rw[at'_eq hil];exact List.getElem_mem hil)
  obtain⟨hb1,hb2⟩:=at_invL hs hx
  obtain⟨t,ht⟩:∃ t,at' (invL s) (at' O i)=t:=⟨_,rfl⟩
  rw[ht] at hb1 hb2
  have h1:=ih.after (t:=t) (d:=s.length+2*i) (Or.inl hb2) (fun h=>by rcases h with h|⟨j,h1,h2⟩ <;> omega)
  have e:starLs s O (i+1)=outL (aftF t (s.length+2*i)) (starLs s O i):=by rw[←ht];rfl
  rw[e]
  refine h1.congr (fun y=>?_) fun y hy=>?_
  ·constructor
   ·rintro ((h|⟨j,h1,h2⟩)|h)
    ·exact Or.inl h
    ·exact Or.inr ⟨j,by omega,h2⟩
    ·exact Or.inr ⟨i,by omega,h⟩
   ·rintro (h|⟨j,h1,h2⟩)
    ·exact Or.inl (Or.inl h)
    ·by_cases h3:j=i
     ·exact Or.inr (h3 ▸ h2)
     ·exact Or.inl (Or.inr ⟨j,by omega,h2⟩)
  ·have htv:stF s O i t=at' O i:=by rw[stF_old hb2,hb1,if_neg (not_mem_take hO hil)]
   unfold insF
   rw[htv]
   by_cases h2:y=t
   ·rw[if_pos h2,h2,stF_old hb2,hb1,if_pos ((mem_take_succ hil).2 (Or.inr rfl)),idx_at hO hil]
   ·rw[if_neg h2]
    by_cases h3:y=s.length+2*i
    ·rw[if_pos h3,stF_even (by omega) (by omega),h3,show (s.length+2*i-s.length) / 2=i by omega]
    ·rw[if_neg h3]
     by_cases h4:y<s.length
     ·rw[stF_old h4,stF_old h4]
      by_cases h5:at' s y∈O.take i
      ·rw[if_pos h5,if_pos ((mem_take_succ hil).2 (Or.inl h5))]
      ·rw[if_neg h5,if_neg]
       intro h6
       rcases (mem_take_succ hil).1 h6 with h7|h7
       ·exact h5 h7
       ·exact h2 (hs.inj h4 hb2 (h7.trans hb1.symm))
     ·have h6:(y-s.length) % 2=0:=by
       rcases hy with (h|⟨j,h1,h2⟩)|h <;> omega
      rw[stF_even h4 h6,stF_even h4 h6]
theorem star_rows {s O:List Nat} (hs:IsPerm s) (hO:O.Nodup) (hlt:∀ x,x∈O→x<s.length) (hm:0<O.length):RowsOf (starLs s O O.length ++ [hubL s.length O.length]) (starC s O):=by
 have h1:=(starLs_rows hs hO hlt O.length (Nat.le_refl _)).congr (g:=at' (starC s O)) (fun y=>Iff.rfl) fun y hy=>by
  have hyl:y<s.length+2*O.length:=by rcases hy with h|⟨j,h1,h2⟩ <;> omega
  rw[starC_at hyl]
  unfold starF
  by_cases h4:y<s.length
  ·rw[stF_old h4,if_pos h4,List.take_length]
  ·have h6:(y-s.length) % 2=0:=by
    rcases hy with h|⟨j,h1,h2⟩ <;> omega
   rw[stF_even h4 h6,if_neg h4,if_pos h6]
 refine (h1.more (hubL_nodup _ _) (fun x hx=>?_) (fun j hj=>?_) fun x _=>rfl).rows (fun y=>?_) fun y _=>rfl
 ·obtain⟨j,h2,h3⟩:=(hubL_mem _).1 hx
  rintro (h|⟨k,h4,h5⟩) <;> omega
 ·rw[hubL_length] at hj ⊢
  rw[hubL_at _ hj,starC_at (by omega)]
  unfold starF
  rw[if_neg (by omega),if_neg (by omega),show (s.length+2*(O.length-1-j)+1-s.length) / 2=O.length-1-j by omega]
  unfold nextI
  by_cases h:j+1<O.length
  ·rw[if_pos h,hubL_at _ h,show O.length-1-j+O.length-1=(O.length-1-(j+1))+O.length by omega,Nat.add_mod_right,Nat.mod_eq_of_lt (by omega)]
  ·rw[if_neg h,hubL_at _ hm,show O.length-1-j=0 by omega,Nat.zero_add,Nat.mod_eq_of_lt (by omega)]
   rfl
 ·rw[starC_length,hubL_mem]
  constructor
  ·rintro ((h|⟨j,h1,h2⟩)|⟨j,h1,h2⟩) <;> omega
  ·intro h
   by_cases h1:y<s.length
   ·exact Or.inl (Or.inl h1)
   ·by_cases h2:(y-s.length) % 2=0
    ·exact Or.inl (Or.inr ⟨(y-s.length) / 2,by omega,by omega⟩)
    ·exact Or.inr ⟨(y-s.length) / 2,by omega,by omega⟩
theorem flipL_length (s:List Nat) (d:Nat):(flipL s d).length=s.length:=by
 unfold flipL;dsimp only
 rw[behindL_length,List.length_set,behindL_length];simp
theorem flip_rows {s:List Nat} (hs:IsPerm s) {d m a b:Nat} (hm:d ^^^ 1=m) (hd:d<s.length) (hml:m<s.length)
  (ha:at' (invL s) (at' (phiL s) (at' (phiL s) d))=a) (hb:at' (invL s) (at' (phiL s) (at' (phiL s) m))=b) (hal:a<s.length) (hbl:b<s.length)
  (h1:at' s d≠d) (h2:at' s m≠m) (h3:at' s d≠m) (h4:at' s m≠d) (ha1:a≠d) (ha2:a≠m) (hb1:b≠d) (hb2:b≠m):
  RowsOf (outL (aftF b m) (outL (aftF a d) (outL (witF m) (outL (witF d) (listsL s s.length))))) (flipL s d):=by
 have hdm:d≠m:=fun e=>by rw[←hm,xor_one] at e;split at e <;> omega
 have r1:=((((lists_rowsF hs).without d).without m).after (t:=a) (d:=d) ⟨⟨hal,ha1⟩,ha2⟩ (fun h=>h.1.2 rfl)).after (t:=b) (d:=m) (Or.inl ⟨⟨hbl,hb1⟩,hb2⟩) (fun h=>h.elim (fun h=>h.2 rfl) fun e=>hdm e.symm)
 refine r1.rows (fun y=>?_) fun y hy=>?_
 ·rw[flipL_length]
  constructor
  ·rintro ((h|h)|h)
   ·exact h.1.1
   ·omega
   ·omega
  ·intro h
   by_cases e1:y=m
   ·exact Or.inr e1
   ·by_cases e2:y=d
    ·exact Or.inl (Or.inr e2)
    ·exact Or.inl (Or.inl ⟨⟨h,e2⟩,e1⟩)
 rw[flipL_length] at hy
 obtain⟨hd1,hd2⟩:=at_invL hs hd
 obtain⟨hm1,hm2⟩:=at_invL hs hml
 unfold flipL
 dsimp only
 rw[hm,ha,hb]
 obtain⟨p,hp⟩:∃ p,at' (invL s) d=p:=⟨_,rfl⟩
 obtain⟨q,hq⟩:∃ q,at' (invL s) m=q:=⟨_,rfl⟩
 rw[hp] at hd1 hd2
 rw[hq] at hm1 hm2
 rw[hp,hq]
 obtain⟨L1,hL1⟩:∃ L,(s.set p (at' s d)).set q (at' s m)=L:=⟨_,rfl⟩
 have hl1:L1.length=s.length:=by rw[←hL1];simp
 rw[hL1]
 have hpq:p≠q:=fun e=>hdm (by rw[←hd1,e,hm1])
 have hpd:p≠d:=fun e=>h1 (by rw[←e,hd1,e])
 have hqm:q≠m:=fun e=>h2 (by rw[←e,hm1,e])
 have hpm:p≠m:=fun e=>h4 (by rw[←e,hd1])
 have hqd:q≠d:=fun e=>h3 (by rw[←e,hm1])
 have v1:∀ x,x<s.length→at' L1 x=delF (delF (at' s) d) m x:=fun x hx=>by
  rw[←hL1,at_set (by rw[List.length_set];exact hx),at_set hx]
  have gm:delF (at' s) d m=at' s m:=by unfold delF;rw[if_neg h4]
  unfold delF at gm ⊢
  rw[gm]
  by_cases e1:q=x
  ·have hv:at' s x=m:=by rw[←e1];exact hm1
   rw[if_pos e1,hv,if_neg (show ¬ m=d from fun e=>hdm e.symm),if_pos rfl]
  ·rw[if_neg e1]
   by_cases e2:p=x
   ·have hv:at' s x=d:=by rw[←e2];exact hd1
    rw[if_pos e2,hv,if_pos rfl,if_neg h3]
   ·rw[if_neg e2,if_neg (show ¬ at' s x=d from fun e=>e2 (hs.inj hd2 hx (hd1.trans e.symm))),if_neg (show ¬ at' s x=m from fun e=>e1 (hs.inj hm2 hx (hm1.trans e.symm)))]
 rw[behind_at (by rw[List.length_set,behindL_length,List.length_set,hl1];exact hy)]
 have v2:∀ x,x<s.length→x≠m→at' ((behindL (L1.set d d) d a).set m m) x=insF (delF (delF (at' s) d) m) a d x:=fun x hx hxm=>by
  rw[at_set (by rw[behindL_length,List.length_set,hl1];exact hx),if_neg (fun e=>hxm e.symm),behind_at (by rw[List.length_set,hl1];exact hx)]
  refine insF_congr ?_ fun _ e2=>?_
  ·rw[at_set (by rw[hl1];exact hal),if_neg (show ¬ d=a from fun e=>ha1 e.symm),v1 a hal]
  ·rw[at_set (by rw[hl1];exact hx),if_neg (show ¬ d=x from fun e=>e2 e.symm),v1 x hx]
 have ub:∀ (F:Nat→Nat) (t u x:Nat),insF F t u x=if x=t then u else if x=u then F t else F x:=fun _ _ _ _=>rfl
 rw[ub _ b m y,ub _ b m y,v2 b hbl hb2]
 by_cases e1:y=b
 ·rw[if_pos e1,if_pos e1]
 ·rw[if_neg e1,if_neg e1]
  by_cases e2:y=m
  ·rw[if_pos e2,if_pos e2]
  ·rw[if_neg e2,if_neg e2,v2 y hy e2]
end
end Go.Proofs.YtgphnkkdmlohlaaGreatDoor
