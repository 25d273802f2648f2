/- The walk around a tree that is found on the way: it looks at each dart of the part once. -/
import Derived.Test.YtklkgicjfnbndaaGreatZScriptDoes17
namespace Go.Proofs.YtklkgicjfnbndaaGreat
section
set_option linter.unusedVariables false
def vtx (s:List Nat) (x:Nat):Nat:=(nth (namesL s) x).toNat
theorem vtx_eq {s:List Nat} (hs:IsPerm s) {x:Nat} (hx:x<s.length):nth (namesL s) x=(vtx s x:Int):=by
 unfold vtx
 have:=(names_lt hs hx).1
 omega
theorem vtx_lt {s:List Nat} (hs:IsPerm s) {x:Nat} (hx:x<s.length):vtx s x<(sizesL s).length:=by
 have h1:=vtx_eq hs hx
 have h2:=(names_lt hs hx).2
 omega
theorem vtx_cyc {s:List Nat} (hs:IsPerm s) {x y:Nat} (hx:x<s.length) (hy:y<s.length):vtx s x=vtx s y↔cyc s.length (at' s) x y:=by
 rw[cyc_at hs,vtx_eq hs hx,vtx_eq hs hy]
 exact⟨fun h=>⟨hx,hy,by omega⟩,fun h=>by have:=h.2.2;omega⟩
theorem vtx_step {s:List Nat} (hs:IsPerm s) {x:Nat} (hx:x<s.length):vtx s (at' s x)=vtx s x:=
 (vtx_cyc hs (hs.lt hx) hx).2 (hs.pm.per.symm (hs.pm.step hx))
def getB (l:List Bool) (i:Nat):Bool:=l.getD i false
theorem getB_set {l:List Bool} {i j:Nat} {b:Bool} (h:i<l.length):getB (l.set i b) j=if i=j then b else getB l j:=by
 unfold getB
 rw[List.getD_eq_getElem?_getD,List.getElem?_set]
 split
 ·rename_i e;subst e;simp
 ·rw[List.getD_eq_getElem?_getD]
structure WSt where
 d:Nat
 ed:List Int
 mt:List Bool
def wkind (s:List Nat) (st:WSt):Nat:=
 if nth st.ed (st.d / 2)=0 then (if getB st.mt (vtx s (st.d ^^^ 1))=true then 2 else 0) else if nth st.ed (st.d / 2)=1 then 1 else 3
def wed (s:List Nat) (st:WSt):List Int:=if nth st.ed (st.d / 2)=0 then st.ed.set (st.d / 2) ((wkind s st:Int)+1) else st.ed
def wmt (s:List Nat) (st:WSt):List Bool:=if wkind s st=0 then st.mt.set (vtx s (st.d ^^^ 1)) true else st.mt
def wdart (s:List Nat) (st:WSt):Nat:=at' s (if wkind s st<2 then st.d ^^^ 1 else st.d)
def wnext (s:List Nat) (st:WSt):WSt:=⟨wdart s st,wed s st,wmt s st⟩
def wst (s:List Nat) (V root:Nat):Nat→WSt
 | 0=>⟨root,List.replicate (s.length / 2) 0,(List.replicate V false).set (vtx s root) true⟩
 | i+1=>wnext s (wst s V root i)
def wd (s:List Nat) (V root i:Nat):Nat:=(wst s V root i).d
def wk (s:List Nat) (V root i:Nat):Nat:=wkind s (wst s V root i)
def psi (s:List Nat) (ed:List Int) (x:Nat):Nat:=at' s (if nth ed (x / 2)=1 then x ^^^ 1 else x)
theorem wkind_le (s:List Nat) (st:WSt):wkind s st≤3:=by
 unfold wkind
 split
 ·split <;> omega
 ·split <;> omega
structure WInv (s:List Nat) (V root:Nat) (i:Nat):Prop where
 edl:(wst s V root i).ed.length=s.length / 2
 mtl:(wst s V root i).mt.length=V
 lt:∀ j,j≤i→wd s V root j<s.length
 vals:∀ e,nth (wst s V root i).ed e=0∨nth (wst s V root i).ed e=1∨nth (wst s V root i).ed e=3
 seen:∀ e,nth (wst s V root i).ed e≠0↔∃ j,j<i∧wd s V root j / 2=e
 pm:Pm s.length (psi s (wst s V root i).ed)
 path:∀ j,j<i→wd s V root (j+1)=psi s (wst s V root i).ed (wd s V root j)
 met:∀ x,x<s.length→(getB (wst s V root i).mt (vtx s x)=true↔cyc s.length (psi s (wst s V root i).ed) root x)
 tree:∀ x,x<s.length→nth (wst s V root i).ed (x / 2)=1→getB (wst s V root i).mt (vtx s x)=true
 told:∀ j,j<i→getB (wst s V root i).mt (vtx s (wd s V root j ^^^ 1))=true∨∃ k,k<j∧wd s V root k / 2=wd s V root j / 2
 con:∀ x,cyc s.length (psi s (wst s V root i).ed) root x→Con s root x
theorem nth_rep (n i:Nat):nth (List.replicate n 0) i=0:=by
 unfold nth
 by_cases h:i<n <;> simp[h]
theorem psi_none {s:List Nat} {ed:List Int} (h:∀ e,nth ed e≠1) (x:Nat):psi s ed x=at' s x:=by
 unfold psi
 rw[if_neg (h _)]
theorem WInv.path_it {s:List Nat} {V root i:Nat} (h:WInv s V root i):∀ j,j≤i→wd s V root j=itf (psi s (wst s V root i).ed) j root
 | 0,_=>rfl
 | j+1,hj=>by rw[itf_succ,←h.path_it j (by omega),h.path j (by omega)]
theorem WInv.zero {s:List Nat} (hs:IsPerm s) (he:s.length % 2=0) {V root:Nat} (hr:root<s.length) (hV:(sizesL s).length≤V):WInv s V root 0:=by
 have h0:∀ e,nth (wst s V root 0).ed e=0:=fun e=>nth_rep _ e
 have hpsi:∀ x,psi s (wst s V root 0).ed x=at' s x:=psi_none fun e=>by rw[h0];decide
 have hpm:Pm s.length (psi s (wst s V root 0).ed):=hs.pm.congr fun x _=>(hpsi x).symm
 have hcyc:∀ x y,cyc s.length (psi s (wst s V root 0).ed) x y↔cyc s.length (at' s) x y:=fun x y=>cyc_congr hpm fun z _=>hpsi z
 have hm:∀ v,getB (wst s V root 0).mt v=true↔vtx s root=v:=fun v=>by
  show getB ((List.replicate V false).set (vtx s root) true) v=true↔_
  rw[getB_set (by simp;have:=vtx_lt hs hr;omega)]
  split
  ·rename_i e;exact⟨fun _=>e,fun _=>rfl⟩
  ·rename_i e
   refine⟨fun h=>?_,fun h=>absurd h e⟩
   unfold getB at h
   by_cases hv:v<V <;> simp[hv] at h
 refine⟨by show (List.replicate (s.length / 2) (0:Int)).length=_;simp,by show ((List.replicate V false).set _ true).length=V;simp,fun j hj=>?_,fun e=>Or.inl (h0 e),fun e=>?_,hpm,fun j hj=>absurd hj (Nat.not_lt_zero _),fun x hx=>?_,fun x hx h=>?_,fun j hj=>absurd hj (Nat.not_lt_zero _),fun x hc=>?_⟩
 ·rw[show j=0 by omega];exact hr
 ·rw[h0];exact⟨fun h=>absurd rfl h,fun ⟨j,hj,_⟩=>absurd hj (Nat.not_lt_zero _)⟩
 ·rw[hm,hcyc,vtx_cyc hs hr hx]
 ·rw[h0] at h;cases h
 ·exact hs.pm.cyc_sub (Con.per hs) (fun z hz=>Con.step hs hz) ((hcyc root x).1 hc)
theorem psi_congr {s:List Nat} {ed ed':List Int} (h:∀ e,nth ed' e=1↔nth ed e=1) (x:Nat):psi s ed' x=psi s ed x:=by
 unfold psi
 by_cases e:nth ed (x / 2)=1
 ·rw[if_pos e,if_pos ((h _).2 e)]
 ·rw[if_neg e,if_neg (fun e'=>e ((h _).1 e'))]
theorem half_eq {x d:Nat} (h:x / 2=d / 2):x=d∨x=d ^^^ 1:=by
 rw[xor_one]
 split <;> omega
theorem WInv.step {s:List Nat} (hs:IsPerm s) (he:s.length % 2=0) {V root:Nat} (hr:root<s.length) (hV:(sizesL s).length≤V) {i:Nat} (h:WInv s V root i):WInv s V root (i+1):=by
 obtain⟨st,hst⟩:∃ st,wst s V root i=st:=⟨_,rfl⟩
 obtain⟨d,hd⟩:∃ d,st.d=d:=⟨_,rfl⟩
 have hdi:wd s V root i=d:=by unfold wd;rw[hst,hd]
 have hdl:d<s.length:=by rw[←hdi];exact h.lt i (Nat.le_refl _)
 have hml:=xor_one_lt he hdl
 have hde:d / 2<s.length / 2:=by omega
 have e1:wst s V root (i+1)=wnext s st:=by show wnext s (wst s V root i)=_;rw[hst]
 have edl:st.ed.length=s.length / 2:=by rw[←hst];exact h.edl
 have mtl:st.mt.length=V:=by rw[←hst];exact h.mtl
 have hvl:vtx s (d ^^^ 1)<st.mt.length:=by rw[mtl];have:=vtx_lt hs hml;omega
 have vals:=h.vals
 have seen:=h.seen
 have pm:=h.pm
 have path:=h.path
 have met:=h.met
 have tree:=h.tree
 have told:=h.told
 have con:=h.con
 have pit:=h.path_it
 rw[hst] at vals seen pm path met tree told con pit
 have hcd:cyc s.length (psi s st.ed) root d:=⟨hr,hdl,i,by rw[←pit i (Nat.le_refl _),hdi]⟩
 have hnext:wd s V root (i+1)=wdart s st:=by unfold wd;rw[e1];rfl
 have hwl:wdart s st<s.length:=by
  unfold wdart
  refine hs.lt ?_
  rw[hd]
  split
  ·exact hml
  ·exact hdl
 have lt:∀ j,j≤i+1→wd s V root j<s.length:=fun j hj=>by
  by_cases e:j=i+1
  ·rw[e,hnext];exact hwl
  ·exact h.lt j (by omega)
 have hK:wkind s st=if nth st.ed (d / 2)=0 then (if getB st.mt (vtx s (d ^^^ 1))=true then 2 else 0) else if nth st.ed (d / 2)=1 then 1 else 3:=by unfold wkind;rw[hd]
 have hE:wed s st=if nth st.ed (d / 2)=0 then st.ed.set (d / 2) ((wkind s st:Int)+1) else st.ed:=by unfold wed;rw[hd]
 have hM:wmt s st=if wkind s st=0 then st.mt.set (vtx s (d ^^^ 1)) true else st.mt:=by unfold wmt;rw[hd]
 have hD:wdart s st=at' s (if wkind s st<2 then d ^^^ 1 else d):=by unfold wdart;rw[hd]
 have ed':(wst s V root (i+1)).ed=wed s st:=by rw[e1];rfl
 have mt':(wst s V root (i+1)).mt=wmt s st:=by rw[e1];rfl
 have hold:∀ e,nth st.ed e≠0→nth (wed s st) e=nth st.ed e:=fun e hn=>by
  rw[hE]
  split
  ·rename_i h0
   rw[nth_set (by rw[edl];exact hde),if_neg (fun e'=>by subst e';exact hn h0)]
  ·rfl
 have hseen:∀ e,nth (wed s st) e≠0↔∃ j,j<i+1∧wd s V root j / 2=e:=fun e=>by
  constructor
  ·intro hn
   by_cases h0:nth st.ed e=0
   ·refine⟨i,by omega,?_⟩
    rw[hdi]
    rw[hE] at hn
    split at hn
    ·rw[nth_set (by rw[edl];exact hde)] at hn
     split at hn
     ·assumption
     ·exact absurd h0 hn
    ·exact absurd h0 hn
   ·obtain⟨j,hj,ej⟩:=(seen e).1 h0
    exact⟨j,by omega,ej⟩
  ·rintro⟨j,hj,ej⟩
   by_cases h0:nth st.ed e=0
   ·have hji:j=i:=by
     apply Classical.byContradiction
     intro hne
     exact (seen e).2 ⟨j,by omega,ej⟩ h0
    subst hji
    rw[hdi] at ej
    subst ej
    rw[hE,if_pos h0,nth_set (by rw[edl];exact hde),if_pos rfl]
    omega
   ·rw[hold e h0];exact h0
 have hvals:∀ e,nth (wed s st) e=0∨nth (wed s st) e=1∨nth (wed s st) e=3:=fun e=>by
  rw[hE]
  split
  ·rename_i h0
   rw[nth_set (by rw[edl];exact hde)]
   split
   ·rw[hK,if_pos h0]
    split <;> simp
   ·exact vals e
  ·exact vals e
 have hpathOld:∀ j,j<i→psi s (wed s st) (wd s V root j)=psi s st.ed (wd s V root j):=fun j hj=>by
  unfold psi
  rw[hold _ ((seen _).2 ⟨j,hj,rfl⟩)]
 have hown:(nth (wed s st) (d / 2)=1↔wkind s st<2):=by
  rw[hE,hK]
  by_cases h0:nth st.ed (d / 2)=0
  ·rw[if_pos h0,if_pos h0,nth_set (by rw[edl];exact hde),if_pos rfl]
   split <;> simp
  ·rw[if_neg h0,if_neg h0]
   split
   ·rename_i h1;simp[h1]
   ·rename_i h1;simp[h1]
 have hpathNew:wdart s st=psi s (wed s st) d:=by
  rw[hD]
  unfold psi
  by_cases hk:wkind s st<2
  ·rw[if_pos hk,if_pos (hown.2 hk)]
  ·rw[if_neg hk,if_neg (fun e=>hk (hown.1 e))]
 have hpath:∀ j,j<i+1→wd s V root (j+1)=psi s (wed s st) (wd s V root j):=fun j hj=>by
  by_cases e:j=i
  ·subst e;rw[hnext,hdi];exact hpathNew
  ·rw[hpathOld j (by omega)];exact path j (by omega)
 by_cases hk:wkind s st=0
 ·-- a new edge of the tree
  have h0:nth st.ed (d / 2)=0:=by
   apply Classical.byContradiction
   intro hn
   rw[hK,if_neg hn] at hk
   split at hk <;> omega
  have hum:¬ getB st.mt (vtx s (d ^^^ 1))=true:=fun hm=>by
   rw[hK,if_pos h0,if_pos hm] at hk
   omega
  have hdm:d≠d ^^^ 1:=fun e=>xor_one_ne d e.symm
  have hsw:∀ x,psi s (wed s st) x=swp (psi s st.ed) d (d ^^^ 1) x:=fun x=>by
   have hx0:nth (wed s st) (x / 2)=if d / 2=x / 2 then 1 else nth st.ed (x / 2):=by
    rw[hE,if_pos h0,nth_set (by rw[edl];exact hde),hk];rfl
   by_cases ex:x / 2=d / 2
   ·rcases half_eq ex with rfl|rfl
    ·rw[swp_a]
     unfold psi
     rw[hx0,if_pos rfl,if_pos rfl,xor_one_div,if_neg (by rw[h0];decide)]
    ·rw[swp_b _ hdm]
     unfold psi
     rw[hx0,xor_one_div,if_pos rfl,if_pos rfl,xor_one_one,if_neg (by rw[h0];decide)]
   ·rw[swp_o _ (fun e=>ex (by rw[e])) (fun e=>ex (by rw[e,xor_one_div]))]
    unfold psi
    rw[hx0,if_neg (show ¬ d / 2=x / 2 from fun e=>ex e.symm)]
  have hpm':Pm s.length (psi s (wed s st)):=(pm.swap hdl hml hdm).congr fun x _=>(hsw x).symm
  have hnc:¬ cyc s.length (psi s st.ed) d (d ^^^ 1):=fun hc=>hum ((met _ hml).2 (pm.per.trans hcd hc))
  have hstay:∀ x,x<s.length→vtx s x=vtx s (d ^^^ 1)→psi s st.ed x=at' s x:=fun x hx hv=>by
   unfold psi
   rw[if_neg (fun e=>hum (by rw[←hv];exact tree x hx e))]
  have hnew:∀ x,x<s.length→(cyc s.length (psi s st.ed) (d ^^^ 1) x↔vtx s (d ^^^ 1)=vtx s x):=fun x hx=>by
   constructor
   ·rintro⟨_,_,j,rfl⟩
    have key:∀ j,vtx s (itf (psi s st.ed) j (d ^^^ 1))=vtx s (d ^^^ 1):=fun j=>by
     induction j with
     | zero=>rfl
     | succ j ih=>
      have hl:=pm.it hml j
      rw[itf_succ,hstay _ hl ih,vtx_step hs hl,ih]
    exact (key j).symm
   ·intro hv
    obtain⟨_,_,j,e⟩:=(vtx_cyc hs hml hx).1 hv
    have key:∀ j,itf (psi s st.ed) j (d ^^^ 1)=itf (at' s) j (d ^^^ 1):=fun j=>by
     induction j with
     | zero=>rfl
     | succ j ih=>
      have hl:=hs.pm.it hml j
      rw[itf_succ,itf_succ,ih]
      refine hstay _ hl ?_
      exact (vtx_cyc hs hl hml).2 (hs.pm.per.symm ⟨hml,hl,j,rfl⟩)
    exact⟨hml,hx,j,by rw[key];exact e⟩
  have hcyc:∀ x,x<s.length→(cyc s.length (psi s (wed s st)) root x↔cyc s.length (psi s st.ed) root x∨vtx s (d ^^^ 1)=vtx s x):=fun x hx=>by
   rw[cyc_congr hpm' fun z _=>hsw z,pm.swp_mrg hdl hml hdm hnc]
   unfold mrg
   rw[←hnew x hx]
   constructor
   ·rintro (k|⟨_,k⟩|⟨k,_⟩)
    ·exact Or.inl k
    ·exact Or.inr k
    ·exact absurd (pm.per.trans (pm.per.symm hcd) k) hnc
   ·rintro (k|k)
    ·exact Or.inl k
    ·exact Or.inr (Or.inl ⟨hcd,k⟩)
  have hmt:∀ v,getB (wmt s st) v=true↔getB st.mt v=true∨vtx s (d ^^^ 1)=v:=fun v=>by
   rw[hM,if_pos hk,getB_set hvl]
   split
   ·rename_i e;exact⟨fun _=>Or.inr e,fun _=>rfl⟩
   ·rename_i e;exact⟨Or.inl,fun h=>h.resolve_right e⟩
  have hmet:∀ x,x<s.length→(getB (wmt s st) (vtx s x)=true↔cyc s.length (psi s (wed s st)) root x):=fun x hx=>by
   rw[hmt,hcyc x hx,met x hx]
  refine⟨by rw[ed',hE,if_pos h0,List.length_set];exact edl,by rw[mt',hM,if_pos hk,List.length_set];exact mtl,lt,by rw[ed'];exact hvals,by rw[ed'];exact hseen,by rw[ed'];exact hpm',by rw[ed'];exact hpath,by rw[ed',mt'];exact hmet,?_,?_,?_⟩
  ·rw[ed',mt']
   intro x hx ex
   rw[hmt]
   by_cases e:x / 2=d / 2
   ·rcases half_eq e with rfl|rfl
    ·exact Or.inl ((met _ hdl).2 hcd)
    ·exact Or.inr rfl
   ·left
    refine tree x hx ?_
    rw[hE,if_pos h0,nth_set (by rw[edl];exact hde),if_neg (fun e'=>e e'.symm)] at ex
    exact ex
  ·rw[mt']
   intro j hj
   by_cases e:j=i
   ·subst e;rw[hdi];exact Or.inl ((hmt _).2 (Or.inr rfl))
   ·rcases told j (by omega) with k|k
    ·exact Or.inl ((hmt _).2 (Or.inl k))
    ·exact Or.inr k
  ·rw[ed']
   intro x hc
   have hx:=hpm'.per.cod hc
   rcases (hcyc x hx).1 hc with k|k
   ·exact con x k
   ·have h1:=con d hcd
    have h2:=Con.mate hs he hdl
    have h3:Con s (d ^^^ 1) x:=hs.pm.cyc_sub (Con.per hs) (fun z hz=>Con.step hs hz) ((vtx_cyc hs hml hx).1 k)
    exact (Con.per hs).trans h1 ((Con.per hs).trans h2 h3)
 ·-- no new edge of the tree
  have hsame:∀ e,nth (wed s st) e=1↔nth st.ed e=1:=fun e=>by
   rw[hE]
   split
   ·rename_i h0
    rw[nth_set (by rw[edl];exact hde)]
    split
    ·rename_i e'
     subst e'
     rw[h0]
     constructor
     ·intro h1;exfalso;omega
     ·intro h1;cases h1
    ·exact Iff.rfl
   ·exact Iff.rfl
  have hps:∀ x,psi s (wed s st) x=psi s st.ed x:=psi_congr hsame
  have hpm':Pm s.length (psi s (wed s st)):=pm.congr fun x _=>(hps x).symm
  have hcyc:∀ x y,cyc s.length (psi s (wed s st)) x y↔cyc s.length (psi s st.ed) x y:=fun x y=>cyc_congr hpm' fun z _=>hps z
  have hmt:wmt s st=st.mt:=by rw[hM,if_neg hk]
  refine⟨?_,by rw[mt',hmt];exact mtl,lt,by rw[ed'];exact hvals,by rw[ed'];exact hseen,by rw[ed'];exact hpm',by rw[ed'];exact hpath,?_,?_,?_,?_⟩
  ·rw[ed',hE]
   split
   ·rw[List.length_set];exact edl
   ·exact edl
  ·rw[ed',mt',hmt]
   intro x hx
   rw[hcyc];exact met x hx
  ·rw[ed',mt',hmt]
   intro x hx ex
   exact tree x hx ((hsame _).1 ex)
  ·rw[mt',hmt]
   intro j hj
   by_cases e:j=i
   ·subst e
    rw[hdi]
    by_cases h0:nth st.ed (d / 2)=0
    ·left
     apply Classical.byContradiction
     intro hm
     exact hk (by rw[hK,if_pos h0,if_neg hm])
    ·right
     obtain⟨k,hk1,hk2⟩:=(seen _).1 h0
     exact⟨k,hk1,hk2⟩
   ·exact told j (by omega)
  ·rw[ed']
   intro x hc
   exact con x ((hcyc _ _).1 hc)
theorem winv {s:List Nat} (hs:IsPerm s) (he:s.length % 2=0) {V root:Nat} (hr:root<s.length) (hV:(sizesL s).length≤V):∀ i,WInv s V root i
 | 0=>WInv.zero hs he hr hV
 | i+1=>(winv hs he hr hV i).step hs he hr hV
noncomputable def partC' (s:List Nat) (root:Nat):Nat:=tally (Con s root) s.length
section
variable {s : List Nat} (hs : IsPerm s) (he : s.length % 2 = 0) {V root : Nat} (hr : root < s.length) (hV : (sizesL s).length ≤ V)
include hs he hr hV
theorem wback:∃ p,0<p∧p≤s.length∧wd s V root p=root∧∀ j,0<j→j<p→wd s V root j≠root:=by
 have h:=winv hs he hr hV (s.length+1)
 obtain⟨a,b,hab,hb,e⟩:=pigeon s.length (fun k=>itf (psi s (wst s V root (s.length+1)).ed) k root) (fun k _=>h.pm.it hr k)
 have hret:wd s V root (b-a)=root:=by
  rw[h.path_it (b-a) (by omega)]
  refine (h.pm.itInj hr (h.pm.it hr _) a ?_).symm
  rw[←itf_add,show a+(b-a)=b by omega]
  exact e
 obtain⟨p,hp,⟨h1,h2⟩,h3⟩:=least_nat (p:=fun p=>0<p∧wd s V root p=root) (b-a) ⟨by omega,hret⟩
 exact⟨p,h1,by omega,h2,fun j hj hjp hd=>h3 j hjp ⟨hj,hd⟩⟩
theorem wdist {p:Nat} (hp:wd s V root p=root) (hmin:∀ j,0<j→j<p→wd s V root j≠root) {i j:Nat} (hi:i<j) (hj:j<p):wd s V root i≠wd s V root j:=fun e=>by
 have h:=winv hs he hr hV p
 have e':itf (psi s (wst s V root p).ed) i root=itf (psi s (wst s V root p).ed) (i+(j-i)) root:=by
  rw[show i+(j-i)=j by omega,←h.path_it i (by omega),←h.path_it j (by omega),e]
 rw[itf_add] at e'
 have:=h.pm.itInj hr (h.pm.it hr _) i e'
 refine hmin (j-i) (by omega) (by omega) ?_
 rw[h.path_it (j-i) (by omega),←this]
theorem wall {p:Nat} (h0:0<p) (hp:wd s V root p=root) (hmin:∀ j,0<j→j<p→wd s V root j≠root) (x:Nat):Con s root x↔∃ j,j<p∧wd s V root j=x:=by
 have h:=winv hs he hr hV p
 have hret:itf (psi s (wst s V root p).ed) p root=root:=by rw[←h.path_it p (Nat.le_refl _),hp]
 have hcyc:∀ x,cyc s.length (psi s (wst s V root p).ed) root x↔∃ j,j<p∧wd s V root j=x:=fun x=>by
  constructor
  ·rintro⟨_,_,j,e⟩
   refine⟨j % p,Nat.mod_lt _ h0,?_⟩
   rw[h.path_it (j % p) (Nat.le_of_lt (Nat.mod_lt _ h0)),←e]
   have:j=j % p+j / p*p:=by rw[Nat.mul_comm];exact (Nat.mod_add_div j p).symm
   conv=>rhs;rw[this,itf_add,itf_round hret]
  ·rintro⟨j,hj,e⟩
   refine⟨hr,by rw[←e];exact h.lt j (by omega),j,?_⟩
   rw[←h.path_it j (by omega),e]
 constructor
 ·intro hc
  have hcl:∀ x,x<s.length→(getB (wst s V root p).mt (vtx s x)=true↔cyc s.length (psi s (wst s V root p).ed) root x):=h.met
  have hmate:∀ x,x<s.length→cyc s.length (psi s (wst s V root p).ed) root x→cyc s.length (psi s (wst s V root p).ed) root (x ^^^ 1):=fun x hx hc=>by
   obtain⟨j,hj,e⟩:=(hcyc x).1 hc
   rcases h.told j hj with k|⟨k,hk,ek⟩
   ·rw[e] at k
    exact (hcl _ (xor_one_lt he hx)).1 k
   ·rcases half_eq ek with e1|e1
    ·exact absurd e1 (wdist hs he hr hV hp hmin hk hj)
    ·rw[e] at e1
     exact (hcyc _).2 ⟨k,by omega,e1⟩
  have hturn:∀ x,x<s.length→(cyc s.length (psi s (wst s V root p).ed) root (at' s x)↔cyc s.length (psi s (wst s V root p).ed) root x):=fun x hx=>by
   rw[←hcl _ (hs.lt hx),←hcl x hx,vtx_step hs hx]
  have hC:Closed s (fun x=>cyc s.length (psi s (wst s V root p).ed) root x):=⟨hturn,fun x hx=>⟨fun k=>by
   have:=hmate _ (xor_one_lt he hx) k
   rwa [xor_one_one] at this,hmate x hx⟩⟩
  exact (hcyc x).1 (hC.st hs he (by omega) (h.pm.per.refl hr) hc)
 ·intro hj
  exact h.con x ((hcyc x).2 hj)
theorem wlen:wd s V root (partC' s root)=root∧0<partC' s root∧(∀ j,0<j→j<partC' s root→wd s V root j≠root):=by
 obtain⟨p,h0,hpn,hp,hmin⟩:=wback hs he hr hV
 have hall:=wall hs he hr hV h0 hp hmin
 have hlt:∀ j,j<p→wd s V root j<s.length:=fun j hj=>(winv hs he hr hV p).lt j (by omega)
 have e:partC' s root=p:=by
  refine Nat.le_antisymm ?_ ?_
  ·-- from the part to the steps
   have hex:∀ x,∃ j,Con s root x→j<p∧wd s V root j=x:=fun x=>by
    by_cases hc:Con s root x
    ·obtain⟨j,hj⟩:=(hall x).1 hc
     exact⟨j,fun _=>hj⟩
    ·exact⟨0,fun h=>absurd h hc⟩
   have:=tally_inj (fun x=>Classical.choose (hex x)) (p:=Con s root) (q:=fun _=>True) (n:=s.length) (m:=p) (fun x _ hc=>⟨(Classical.choose_spec (hex x) hc).1,trivial⟩) (fun x y _ _ hx hy e=>by
    have h1:=(Classical.choose_spec (hex x) hx).2
    have h2:=(Classical.choose_spec (hex y) hy).2
    have e:Classical.choose (hex x)=Classical.choose (hex y):=e
    rw[←h1,←h2,e])
   rw[tally_all (p:=fun _=>True) fun _ _=>trivial] at this
   exact this
  ·have:=tally_inj (fun j=>wd s V root j) (p:=fun _=>True) (q:=Con s root) (n:=p) (m:=s.length) (fun j hj _=>⟨hlt j hj,(hall _).2 ⟨j,hj,rfl⟩⟩) (fun i j hi hj _ _ e=>by
    rcases Nat.lt_trichotomy i j with k|k|k
    ·exact absurd e (wdist hs he hr hV hp hmin k hj)
    ·exact k
    ·exact absurd e.symm (wdist hs he hr hV hp hmin k hi))
   rw[tally_all (p:=fun _=>True) fun _ _=>trivial] at this
   exact this
 rw[e]
 exact⟨hp,h0,hmin⟩
end
end
section
set_option linter.unusedVariables false
def wcnt (s:List Nat) (V root k:Nat):Nat→Nat
 | 0=>0
 | i+1=>wcnt s V root k i+if wk s V root i=k then 1 else 0
theorem wcnt_le (s:List Nat) (V root k:Nat):∀ i,wcnt s V root k i≤i
 | 0=>Nat.le_refl _
 | i+1=>by have:=wcnt_le s V root k i;unfold wcnt;split <;> omega
theorem wcnt_tally (s:List Nat) (V root k:Nat):∀ i,wcnt s V root k i=tally (fun j=>wk s V root j=k) i
 | 0=>rfl
 | i+1=>by
  rw[tally_succ,←wcnt_tally s V root k i]
  show wcnt s V root k i+(if wk s V root i=k then 1 else 0)=_
  by_cases h:wk s V root i=k
  ·rw[if_pos h,ind_yes h]
  ·rw[if_neg h,ind_no h]
theorem wk_le (s:List Nat) (V root i:Nat):wk s V root i≤3:=wkind_le s _
section
variable {s : List Nat} (hs : IsPerm s) (he : s.length % 2 = 0) {V root : Nat} (hr : root < s.length) (hV : (sizesL s).length ≤ V)
include hs he hr hV
theorem wed_first {j:Nat} (hj:∀ k,k<j→wd s V root k / 2≠wd s V root j / 2):∀ i,j<i→nth (wst s V root i).ed (wd s V root j / 2)=(wk s V root j:Int)+1
 | i+1,hi=>by
  have h:=winv hs he hr hV i
  have e1:(wst s V root (i+1)).ed=wed s (wst s V root i):=rfl
  have hlt:wd s V root j / 2<s.length / 2:=by have:=(winv hs he hr hV j).lt j (Nat.le_refl _);omega
  rw[e1]
  unfold wed
  by_cases e:j=i
  ·subst e
   have h0:nth (wst s V root j).ed (wd s V root j / 2)=0:=by
    apply Classical.byContradiction
    intro hn
    obtain⟨k,hk,ek⟩:=(h.seen _).1 hn
    exact hj k hk ek
   have h0':nth (wst s V root j).ed ((wst s V root j).d / 2)=0:=h0
   rw[if_pos h0',nth_set (by rw[h.edl];exact hlt),if_pos (show (wst s V root j).d / 2=wd s V root j / 2 from rfl)]
   rfl
  ·have ih:=wed_first hj i (by omega)
   have hn:nth (wst s V root i).ed (wd s V root j / 2)≠0:=by rw[ih];omega
   split
   ·rename_i h0
    by_cases e':(wst s V root i).d / 2=wd s V root j / 2
    ·rw[e'] at h0;exact absurd h0 hn
    ·rw[nth_set (by rw[h.edl];have:=h.lt i (Nat.le_refl _);show (wst s V root i).d / 2<_;have e2:(wst s V root i).d=wd s V root i:=rfl;omega),if_neg e']
     exact ih
   ·exact ih
theorem wk_first {j:Nat} (hj:∀ k,k<j→wd s V root k / 2≠wd s V root j / 2):wk s V root j=0∨wk s V root j=2:=by
 have h:=winv hs he hr hV j
 have h0:nth (wst s V root j).ed ((wst s V root j).d / 2)=0:=by
  apply Classical.byContradiction
  intro hn
  obtain⟨k,hk,ek⟩:=(h.seen _).1 hn
  exact hj k hk ek
 unfold wk wkind
 rw[if_pos h0]
 split
 ·exact Or.inr rfl
 ·exact Or.inl rfl
theorem wk_second {j i:Nat} (hj:∀ k,k<j→wd s V root k / 2≠wd s V root j / 2) (hji:j<i) (e:wd s V root i / 2=wd s V root j / 2):wk s V root i=wk s V root j+1:=by
 have h1:=wed_first hs he hr hV hj i hji
 have e1:nth (wst s V root i).ed ((wst s V root i).d / 2)=(wk s V root j:Int)+1:=by
  rw[←h1]
  show nth _ (wd s V root i / 2)=_
  rw[e]
 show wkind s (wst s V root i)=_
 unfold wkind
 rw[e1,if_neg (by omega)]
 rcases wk_first hs he hr hV hj with k|k
 ·rw[k,if_pos (by decide)]
 ·rw[k,if_neg (by decide)]
theorem wpair {j:Nat} (hj:j<partC' s root):∃ i,i<partC' s root∧i≠j∧wd s V root i=wd s V root j ^^^ 1 ∧
  (j<i→(wk s V root j=0∨wk s V root j=2)∧wk s V root i=wk s V root j+1)∧(i<j→(wk s V root i=0∨wk s V root i=2)∧wk s V root j=wk s V root i+1):=by
 obtain⟨hp,h0,hmin⟩:=wlen hs he hr hV
 have hall:=wall hs he hr hV h0 hp hmin
 have hdl:=(winv hs he hr hV j).lt j (Nat.le_refl _)
 obtain⟨i,hi,ei⟩:=(hall (wd s V root j ^^^ 1)).1 ((Con.per hs).trans ((hall _).2 ⟨j,hj,rfl⟩) (Con.mate hs he hdl))
 have hne:i≠j:=fun e=>by subst e;exact xor_one_ne _ ei.symm
 have hhalf:wd s V root i / 2=wd s V root j / 2:=by rw[ei,xor_one_div]
 have hdist:=fun {a b:Nat} (h1:a<b) (h2:b<partC' s root)=>wdist hs he hr hV hp hmin h1 h2
 have hfirst:∀ {a b:Nat},a<b→b<partC' s root→wd s V root b / 2=wd s V root a / 2→∀ k,k<a→wd s V root k / 2≠wd s V root a / 2:=fun {a b} hab hb e k hk ek=>by
  rcases half_eq ek with e1|e1
  ·exact hdist hk (by omega) e1
  ·rcases half_eq e with e2|e2
   ·exact hdist hab hb e2.symm
   ·exact hdist (show k<b by omega) hb (by rw[e1,e2])
 refine⟨i,hi,hne,ei,fun hji=>?_,fun hij=>?_⟩
 ·have hf:=hfirst hji hi hhalf
  exact⟨wk_first hs he hr hV hf,wk_second hs he hr hV hf hji hhalf⟩
 ·have hf:=hfirst hij hj hhalf.symm
  exact⟨wk_first hs he hr hV hf,wk_second hs he hr hV hf hij hhalf.symm⟩
theorem wpairs_le (a b:Nat) (h:∀ j i,j<partC' s root→i<partC' s root→wk s V root j=a→wd s V root i=wd s V root j ^^^ 1→i≠j→wk s V root i=b):wcnt s V root a (partC' s root)≤wcnt s V root b (partC' s root):=by
 obtain⟨hp,h0,hmin⟩:=wlen hs he hr hV
 rw[wcnt_tally,wcnt_tally]
 have hex:∀ j,∃ i,j<partC' s root→i<partC' s root∧i≠j∧wd s V root i=wd s V root j ^^^ 1:=fun j=>by
  by_cases hj:j<partC' s root
  ·obtain⟨i,h1,h2,h3,_⟩:=wpair hs he hr hV hj
   exact⟨i,fun _=>⟨h1,h2,h3⟩⟩
  ·exact⟨0,fun h=>absurd h hj⟩
 refine tally_inj (fun j=>Classical.choose (hex j)) (fun j hj hk=>?_) (fun i j hi hj _ _ e=>?_)
 ·obtain⟨h1,h2,h3⟩:=Classical.choose_spec (hex j) hj
  exact⟨h1,h j _ hj h1 hk h3 h2⟩
 ·obtain⟨_,_,h3⟩:=Classical.choose_spec (hex i) hi
  obtain⟨_,_,k3⟩:=Classical.choose_spec (hex j) hj
  have e:Classical.choose (hex i)=Classical.choose (hex j):=e
  rw[←e,h3] at k3
  have k4:wd s V root i=wd s V root j:=by have:=congrArg (· ^^^ 1) k3;simpa [xor_one_one] using this
  rcases Nat.lt_trichotomy i j with k|k|k
  ·exact absurd k4 (wdist hs he hr hV hp hmin k hj)
  ·exact k
  ·exact absurd k4.symm (wdist hs he hr hV hp hmin k hi)
theorem wbal:wcnt s V root 0 (partC' s root)=wcnt s V root 1 (partC' s root)∧wcnt s V root 2 (partC' s root)=wcnt s V root 3 (partC' s root):=by
 have key:∀ j i,j<partC' s root→i<partC' s root→wd s V root i=wd s V root j ^^^ 1→i≠j→(j<i∧(wk s V root j=0∨wk s V root j=2)∧wk s V root i=wk s V root j+1)∨(i<j∧(wk s V root i=0∨wk s V root i=2)∧wk s V root j=wk s V root i+1):=fun j i hj hi e hne=>by
  obtain⟨hp,h0,hmin⟩:=wlen hs he hr hV
  obtain⟨i',h1,h2,h3,h4,h5⟩:=wpair hs he hr hV hj
  have:i'=i:=by
   rcases Nat.lt_trichotomy i' i with k|k|k
   ·exact absurd (h3.trans e.symm) (wdist hs he hr hV hp hmin k hi)
   ·exact k
   ·exact absurd (e.trans h3.symm) (wdist hs he hr hV hp hmin k h1)
  subst this
  rcases Nat.lt_or_ge j i' with k|k
  ·exact Or.inl ⟨k,h4 k⟩
  ·exact Or.inr ⟨by omega,h5 (by omega)⟩
 constructor
 ·refine Nat.le_antisymm (wpairs_le hs he hr hV 0 1 fun j i hj hi hk e hne=>?_) (wpairs_le hs he hr hV 1 0 fun j i hj hi hk e hne=>?_)
  ·rcases key j i hj hi e hne with ⟨_,_,k⟩|⟨_,_,k⟩ <;> omega
  ·rcases key j i hj hi e hne with ⟨_,_,k⟩|⟨_,_,k⟩ <;> omega
 ·refine Nat.le_antisymm (wpairs_le hs he hr hV 2 3 fun j i hj hi hk e hne=>?_) (wpairs_le hs he hr hV 3 2 fun j i hj hi hk e hne=>?_)
  ·rcases key j i hj hi e hne with ⟨_,_,k⟩|⟨_,k',k⟩ <;> omega
  ·rcases key j i hj hi e hne with ⟨_,k',k⟩|⟨_,_,k⟩ <;> omega
theorem wpart:(partC' s root:Nat)=dcnt (partsL s) (nth (partsL s) root) s.length:=by
 have _h:=hV
 have key:∀ j,j≤s.length→dcnt (partsL s) (nth (partsL s) root) j=tally (fun x=>nth (partsL s) x=nth (partsL s) root) j:=fun j=>by
  induction j with
  | zero=>intro _;rfl
  | succ j ih=>
   intro hj
   rw[dcnt_succ,tally_succ,ih (by omega)]
   by_cases h:nth (partsL s) j=nth (partsL s) root
   ·rw[if_pos h,ind_yes h]
   ·rw[if_neg h,ind_no h]
 rw[key _ (Nat.le_refl _)]
 exact tally_congr fun x hx=>by
  rw[(partsL_ord hs he).rel x root hx hr]
  exact⟨fun h=>(Con.per hs).symm h,fun h=>(Con.per hs).symm h⟩
end
end
end Go.Proofs.YtklkgicjfnbndaaGreat
