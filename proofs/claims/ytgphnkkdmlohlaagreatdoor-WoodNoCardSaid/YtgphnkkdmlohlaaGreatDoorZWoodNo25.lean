/- Rows that tell a turn are its cycles: as many rows as cycles; parts told by a way to name new darts. -/
import Derived.Test.YtgphnkkdmlohlaaGreatDoorZWoodNo24
import Derived.Test.YtgphnkkdmlohlaaGreatDoorZWoodNo20
import Derived.Test.YtgphnkkdmlohlaaGreatDoorZWoodNo21
namespace Go.Proofs.YtgphnkkdmlohlaaGreatDoor
section
set_option linter.unusedVariables false
def SameRow (xss:List (List Nat)) (x y:Nat):Prop:=∃ v,v∈xss∧x∈v∧y∈v
theorem RowsF.perm {xss yss:List (List Nat)} {D:Nat→Prop} {f:Nat→Nat} (h:RowsF xss D f) (p:xss.Perm yss):RowsF yss D f:=
 ⟨p.flatten.nodup_iff.1 h.nd,fun y=>by rw[←p.flatten.mem_iff];exact h.mem y,fun v hv=>h.next v (p.mem_iff.2 hv)⟩
theorem RowsF.tail {xss:List (List Nat)} {v:List Nat} {D:Nat→Prop} {f:Nat→Nat} (h:RowsF (v :: xss) D f):RowsF xss (fun y=>D y∧y∉v) f:=by
 have hn:=h.nd
 rw[List.flatten_cons,List.nodup_append] at hn
 refine⟨hn.2.1,fun y=>?_,fun u hu=>h.next u (List.mem_cons_of_mem _ hu)⟩
 rw[←h.mem y,List.flatten_cons,List.mem_append]
 exact⟨fun hy=>⟨Or.inr hy,fun hv=>hn.2.2 y hv y hy rfl⟩,fun hy=>hy.1.resolve_left hy.2⟩
theorem RowsF.uni {xss:List (List Nat)} {D:Nat→Prop} {f:Nat→Nat} (h:RowsF xss D f) {u v:List Nat} {x:Nat} (hu:u∈xss) (hv:v∈xss) (hxu:x∈u) (hxv:x∈v):u=v:=by
 induction xss generalizing D with
 | nil=>cases hu
 | cons w xss ih=>
  have ht:=h.tail
  rcases List.mem_cons.1 hu with rfl|hu'
  ·rcases List.mem_cons.1 hv with rfl|hv'
   ·rfl
   ·exact absurd hxu ((ht.mem x).1 (List.mem_flatten.2 ⟨v,hv',hxv⟩)).2
  ·rcases List.mem_cons.1 hv with rfl|hv'
   ·exact absurd hxv ((ht.mem x).1 (List.mem_flatten.2 ⟨u,hu',hxu⟩)).2
   ·exact ih ht hu' hv'
theorem RowsF.f_mem {xss:List (List Nat)} {D:Nat→Prop} {f:Nat→Nat} (h:RowsF xss D f) {v:List Nat} (hv:v∈xss) {x:Nat} (hx:x∈v):f x∈v:=by
 obtain⟨j,hj,rfl⟩:=List.getElem_of_mem hx
 have hn:=h.next v hv j hj
 rw[at'_eq hj] at hn
 rw[hn,at'_eq (by unfold nextI;split <;> omega)]
 exact List.getElem_mem _
theorem RowsF.row_it {xss:List (List Nat)} {D:Nat→Prop} {f:Nat→Nat} (h:RowsF xss D f) {v:List Nat} (hv:v∈xss):∀ j,j<v.length→itf f j (at' v 0)=at' v j
 | 0,_=>rfl
 | j+1,hj=>by
  rw[itf_succ,h.row_it hv j (by omega),h.next v hv j (by omega)]
  unfold nextI
  rw[if_pos hj]
theorem rows_tally {xss:List (List Nat)}:∀ {D:Nat→Prop} {f:Nat→Nat} {n:Nat},RowsF xss D f→(∀ v,v∈xss→v≠[])→(∀ y,D y→y<n)→tally (fun x=>D x∧Least (SameRow xss) x) n=xss.length:=by
 induction xss with
 | nil=>
  intro D f n h _ _
  exact tally_none fun k _ hk=>by
   have:=(h.mem k).2 hk.1
   cases this
 | cons v xss ih=>
  intro D f n h hne hD
  have ht:=h.tail
  have hi:=ih ht (fun u hu=>hne u (List.mem_cons_of_mem _ hu)) (fun y hy=>hD y hy.1)
  obtain⟨x0,hx0⟩:∃ x,x∈v:=List.exists_mem_of_ne_nil v (hne v (List.mem_cons_self ..))
  obtain⟨a,_,ha,hl⟩:=least_nat (p:=fun x=>x∈v) x0 hx0
  have hDv:∀ x,x∈v→D x:=fun x hx=>(h.mem x).1 (List.mem_flatten.2 ⟨v,List.mem_cons_self ..,hx⟩)
  have hself:∀ x,D x→∃ u,u∈v :: xss∧x∈u:=fun x hx=>by
   obtain⟨u,hu,hxu⟩:=List.mem_flatten.1 ((h.mem x).2 hx)
   exact⟨u,hu,hxu⟩
  rw[tally_but (a:=a) (hD a (hDv a ha)) ⟨hDv a ha,fun y hy hr=>by
   obtain⟨u,hu,hyu,hau⟩:=hr
   have:=h.uni hu (List.mem_cons_self ..) hau ha
   subst this
   exact hl y hy hyu⟩,List.length_cons,←hi]
  refine congrArg (·+1) (tally_congr fun x hx=>?_)
  constructor
  ·rintro⟨⟨h1,h2⟩,h3⟩
   have hxv:x∉v:=fun hm=>by
    rcases Nat.lt_trichotomy a x with e|e|e
    ·exact h2 a e ⟨v,List.mem_cons_self ..,ha,hm⟩
    ·exact h3 e.symm
    ·exact hl x e hm
   exact⟨⟨h1,hxv⟩,fun y hy ⟨u,hu,h4,h5⟩=>h2 y hy ⟨u,List.mem_cons_of_mem _ hu,h4,h5⟩⟩
  ·rintro⟨⟨h1,h2⟩,h3⟩
   refine⟨⟨h1,fun y hy ⟨u,hu,h4,h5⟩=>?_⟩,fun e=>h2 (e ▸ ha)⟩
   rcases List.mem_cons.1 hu with rfl|hu
   ·exact h2 h5
   ·exact h3 y hy ⟨u,hu,h4,h5⟩
theorem RowsOf.rowsF {xss:List (List Nat)} {T:List Nat} (h:RowsOf xss T):RowsF xss (· < T.length) (at' T):=⟨h.nd,h.mem,fun v hv=>h.next v hv⟩
theorem RowsOf.cyc {xss:List (List Nat)} {T:List Nat} (h:RowsOf xss T) (hT:IsPerm T) {x y:Nat} (hx:x<T.length) (hy:y<T.length):Go.Proofs.YtgphnkkdmlohlaaGreatDoor.cyc T.length (at' T) x y↔SameRow xss x y:=by
 have hf:=h.rowsF
 constructor
 ·rintro⟨_,_,j,rfl⟩
  obtain⟨v,hv,hxv⟩:=List.mem_flatten.1 ((h.mem x).2 hx)
  have key:∀ j,itf (at' T) j x∈v:=fun j=>by
   induction j with
   | zero=>exact hxv
   | succ j ih=>rw[itf_succ];exact hf.f_mem hv ih
  exact⟨v,hv,hxv,key j⟩
 ·rintro⟨v,hv,hxv,hyv⟩
  have hp:=hT.pm.per
  have key:∀ z,z∈v→Go.Proofs.YtgphnkkdmlohlaaGreatDoor.cyc T.length (at' T) (at' v 0) z:=fun z hz=>by
   obtain⟨j,hj,rfl⟩:=List.getElem_of_mem hz
   have h0:at' v 0<T.length:=(h.mem _).1 (List.mem_flatten.2 ⟨v,hv,by rw[at'_eq (by omega)];exact List.getElem_mem _⟩)
   exact⟨h0,(h.mem _).1 (List.mem_flatten.2 ⟨v,hv,hz⟩),j,by rw[hf.row_it hv j hj,at'_eq hj]⟩
  exact hp.trans (hp.symm (key x hxv)) (key y hyv)
theorem RowsOf.count {xss:List (List Nat)} {T:List Nat} (h:RowsOf xss T) (hT:IsPerm T) (hne:∀ v,v∈xss→v≠[]):(sizesL T).length=xss.length:=by
 rw[sizesL_tally hT,←rows_tally h.rowsF hne (fun y hy=>hy)]
 refine tally_congr fun x hx=>⟨fun hl=>⟨hx,fun y hy hr=>hl y hy ((h.cyc hT (by omega) hx).2 hr)⟩,fun hl y hy hr=>hl.2 y hy ((h.cyc hT (by omega) hx).1 hr)⟩
theorem RowsOf.isPerm {xss:List (List Nat)} {T:List Nat} (h:RowsOf xss T):IsPerm T:=by
 have hf:=h.rowsF
 refine IsPerm.of_inj (fun i hi=>?_) (fun i j hi hj e=>?_)
 ·obtain⟨v,hv,hiv⟩:=List.mem_flatten.1 ((h.mem i).2 hi)
  exact (h.mem _).1 (List.mem_flatten.2 ⟨v,hv,hf.f_mem hv hiv⟩)
 ·obtain⟨v,hv,hiv⟩:=List.mem_flatten.1 ((h.mem i).2 hi)
  obtain⟨u,hu,hju⟩:=List.mem_flatten.1 ((h.mem j).2 hj)
  have h1:=hf.f_mem hv hiv
  have h2:=hf.f_mem hu hju
  rw[←e] at h2
  have:=hf.uni hv hu h1 h2
  subst this
  obtain⟨a,ha,rfl⟩:=List.getElem_of_mem hiv
  obtain⟨b,hb,rfl⟩:=List.getElem_of_mem hju
  have ea:=h.next v hv a ha
  have eb:=h.next v hv b hb
  rw[at'_eq ha] at ea
  rw[at'_eq hb] at eb
  rw[ea,eb,at'_eq (by unfold nextI;split <;> omega),at'_eq (by unfold nextI;split <;> omega)] at e
  have hnx:=nodup_inj (hf.rowNd hv) (by unfold nextI;split <;> omega) (by unfold nextI;split <;> omega) e
  have:a=b:=by unfold nextI at hnx;split at hnx <;> split at hnx <;> omega
  subst this
  rfl
theorem lists_ne {s:List Nat} (hs:IsPerm s):∀ v,v∈listsL s s.length→v≠[]:=fun v hv e=>by
 obtain⟨k,hk,h⟩:=(lists_all hs).2.2 v hv
 rw[e] at h
 cases h
theorem lists_count {s:List Nat} (hs:IsPerm s):(listsL s s.length).length=(sizesL s).length:=((lists_rows hs).count hs (lists_ne hs)).symm
theorem after_ne {xss:List (List Nat)} {t d:Nat} (h:∀ v,v∈xss→v≠[]):∀ v,v∈outL (aftF t d) xss→v≠[]:=fun v hv=>by
 unfold outL at hv
 obtain⟨u,hu,rfl⟩:=List.mem_map.1 hv
 obtain⟨x,hx⟩:=List.exists_mem_of_ne_nil u (h u hu)
 have:x∈u.flatMap (aftF t d):=List.mem_flatMap.2 ⟨x,hx,by unfold aftF;split <;> simp_all⟩
 exact List.ne_nil_of_mem this
theorem outL_len (f:Nat→List Nat) (xss:List (List Nat)):(outL f xss).length=xss.length:=by unfold outL;rw[List.length_map]
theorem tally_more {p:Nat→Prop} {n:Nat}:∀ {m:Nat},n≤m→(∀ k,n≤k→k<m→¬ p k)→tally p m=tally p n
 | 0,h,_=>by
  obtain rfl:n=0:=by omega
  rfl
 | m+1,h,hk=>by
  by_cases e:n=m+1
  ·rw[e]
  ·rw[tally_succ,ind_no (hk m (by omega) (by omega)),tally_more (show n≤m by omega) fun k h1 h2=>hk k h1 (by omega)]
   omega
theorem parts_grow {s t:List Nat} (hs:IsPerm s) (hes:s.length % 2=0) (ht:IsPerm t) (het:t.length % 2=0) (hl:s.length≤t.length) (π:Nat→Nat)
  (h0:∀ x,x<s.length→π x=x) (h1:∀ x,x<t.length→π x<s.length) (h2:∀ x,x<t.length→Con s (π x) (π (at' t x))) (h3:∀ x,x<t.length→Con s (π x) (π (x ^^^ 1)))
  (h4:∀ x,x<s.length→Con t x (at' s x)) (h5:∀ x,x<t.length→Con t (π x) x):partsN t=partsN s:=by
 have ps:=Con.per hs
 have pt:=Con.per ht
 have up:∀ {x y},Con t x y→Con s (π x) (π y):=fun {x y} h=>by
  have:(fun a b=>a<t.length∧b<t.length∧Con s (π a) (π b)) x y:=by
   refine Con.sub ht (r:=fun a b=>a<t.length∧b<t.length∧Con s (π a) (π b)) ⟨fun hx=>⟨hx,hx,ps.refl (h1 _ hx)⟩,fun h=>⟨h.2.1,h.1,ps.symm h.2.2⟩,fun h k=>⟨h.1,k.2.1,ps.trans h.2.2 k.2.2⟩,fun h=>h.1⟩ (fun x hx=>⟨hx,ht.lt hx,h2 x hx⟩) (fun x hx=>⟨hx,xor_one_lt het hx,h3 x hx⟩) h
  exact this.2.2
 have down:∀ {x y},Con s x y→Con t x y:=fun {x y} h=>by
  have:(fun a b=>a<s.length∧b<s.length∧Con t a b) x y:=by
   refine Con.sub hs (r:=fun a b=>a<s.length∧b<s.length∧Con t a b) ⟨fun hx=>⟨hx,hx,pt.refl (by omega)⟩,fun h=>⟨h.2.1,h.1,pt.symm h.2.2⟩,fun h k=>⟨h.1,k.2.1,pt.trans h.2.2 k.2.2⟩,fun h=>h.1⟩ (fun x hx=>⟨hx,hs.lt hx,h4 x hx⟩) (fun x hx=>⟨hx,xor_one_lt hes hx,Con.mate ht het (by omega)⟩) h
  exact this.2.2
 have e1:partsN t=tally (Least (Con t)) t.length:=(partsL_ord ht het).cnt_eq (Nat.le_refl _)
 have e2:partsN s=tally (Least (Con s)) s.length:=(partsL_ord hs hes).cnt_eq (Nat.le_refl _)
 rw[e1,e2,tally_more hl fun k hk hk2 hL=>hL (π k) (by have:=h1 k hk2;omega) (h5 k hk2)]
 refine tally_congr fun x hx=>⟨fun hL y hy h=>hL y hy (down h),fun hL y hy h=>hL y hy ?_⟩
 have:=up h
 rw[h0 x hx,h0 y (by omega)] at this
 exact this
theorem genus_grow {s t:List Nat} (hs:IsPerm s) (hes:s.length % 2=0) (ht:IsPerm t) (het:t.length % 2=0) {v f:Int} (hp:partsN t=partsN s) (hv:((sizesL t).length:Int)=(sizesL s).length+v) (hf:((sizesL (phiL t)).length:Int)=(sizesL (phiL s)).length+f) (he:((t.length / 2:Nat):Int)=((s.length / 2:Nat):Int)+(v+f)):genusL t=genusL s:=by
 have h1:=genus_total hs hes
 have h2:=genus_total ht het
 rw[hp,hv,hf,he] at h2
 omega
end
section
set_option linter.unusedVariables false
structure GrownL (s t:List Nat) (v f:Int):Prop where
 perm:IsPerm t
 even:t.length % 2=0
 parts:partsN t=partsN s
 vs:((sizesL t).length:Int)=(sizesL s).length+v
 fs:((sizesL (phiL t)).length:Int)=(sizesL (phiL s)).length+f
 es:((t.length / 2:Nat):Int)=((s.length / 2:Nat):Int)+(v+f)
theorem GrownL.genus {s t:List Nat} {v f:Int} (h:GrownL s t v f) (hs:IsPerm s) (hes:s.length % 2=0):genusL t=genusL s:=genus_grow hs hes h.perm h.even h.parts h.vs h.fs h.es
theorem insF_t (f:Nat→Nat) (t d:Nat):insF f t d t=d:=by unfold insF;rw[if_pos rfl]
theorem insF_d {f:Nat→Nat} {t d:Nat} (h:d≠t):insF f t d d=f t:=by unfold insF;rw[if_neg h,if_pos rfl]
theorem insF_o {f:Nat→Nat} {t d x:Nat} (h:x≠t) (h2:x≠d):insF f t d x=f x:=by unfold insF;rw[if_neg h,if_neg h2]
theorem delF_d {f:Nat→Nat} {d x:Nat} (h:f x=d):delF f d x=f d:=by unfold delF;rw[if_pos h]
theorem delF_o {f:Nat→Nat} {d x:Nat} (h:f x≠d):delF f d x=f x:=by unfold delF;rw[if_neg h]
theorem xor_add {n k:Nat} (hn:n % 2=0) (h:k<2):(n+k) ^^^ 1=n+(1-k):=by
 rw[xor_one]
 split <;> omega
theorem lists_phi {s:List Nat} (hs:IsPerm s) (hes:s.length % 2=0):(listsL (phiL s) s.length).length=(sizesL (phiL s)).length:=by
 have:=lists_count (phiL_perm hs hes)
 rwa [phiL_length] at this
theorem lists_phi_ne {s:List Nat} (hs:IsPerm s) (hes:s.length % 2=0):∀ v,v∈listsL (phiL s) s.length→v≠[]:=by
 have:=lists_ne (phiL_perm hs hes)
 rwa [phiL_length] at this
section
variable {s : List Nat} (hs : IsPerm s) (hes : s.length % 2 = 0) {d : Nat} (hd : d < s.length)
include hs hes hd
end
section
variable {s : List Nat} (hs : IsPerm s) (hes : s.length % 2 = 0) {d m : Nat} (hm : d ^^^ 1 = m) (hd : d < s.length)
include hs hes hm hd
end
end
section
set_option linter.unusedVariables false
theorem face_con {s:List Nat} (hs:IsPerm s) (hes:s.length % 2=0) {x y:Nat} (h:cyc s.length (at' (phiL s)) x y):Con s x y:=by
 have hp:=(phiL_perm hs hes).pm
 rw[phiL_length] at hp
 have ps:=Con.per hs
 refine hp.cyc_sub ps (fun z hz=>?_) h
 rw[phiL_at hz]
 exact ps.trans (Con.mate hs hes hz) (Con.step hs (xor_one_lt hes hz))
theorem orbit_at {s:List Nat} (hs:IsPerm s) {k:Nat} (hk:k<s.length) {j:Nat} (hj:j<(orbitL s k).length):at' s (at' (orbitL s k) j)=at' (orbitL s k) (nextI (orbitL s k).length j):=by
 obtain⟨c,hc,hcl,he⟩:=orbitL_map hs hk
 have hl:(orbitL s k).length=c:=by rw[he];simp
 have ha:∀ j,j<c→at' (orbitL s k) j=it s j k:=fun j hj=>by rw[he];simp[at',hj]
 have hsucc:∀ j,it s (j+1) k=at' s (it s j k):=fun j=>by rw[it_itf,it_itf,itf_succ]
 rw[hl] at hj ⊢
 unfold nextI
 by_cases e:j+1<c
 ·rw[if_pos e,ha j hj,ha _ e,hsucc]
 ·rw[if_neg e,ha j hj,ha 0 hc,←hsucc,show j+1=c by omega,hcl]
  rfl
section
variable {s : List Nat} (hs : IsPerm s) (hes : s.length % 2 = 0) {d e : Nat} (hd : d < s.length) (he : e < s.length)
include hs hes hd he
end
end
section
set_option linter.unusedVariables false
def triL (s O:List Nat) (j:Nat):List Nat:=[at' O j,s.length+2*nextI O.length j,s.length+2*j+1]
def trisL (s O:List Nat):Nat→List (List Nat)
 | 0=>[]
 | i+1=>trisL s O i ++ [triL s O i]
theorem trisL_length (s O:List Nat):∀ i,(trisL s O i).length=i
 | 0=>rfl
 | i+1=>by unfold trisL;rw[List.length_append,trisL_length s O i];rfl
theorem trisL_ne (s O:List Nat):∀ i v,v∈trisL s O i→v≠[]
 | 0,v,h=>by cases h
 | i+1,v,h=>by
  unfold trisL at h
  rcases List.mem_append.1 h with h|h
  ·exact trisL_ne s O i v h
  ·rw[List.mem_singleton.1 h];unfold triL;simp
theorem nextI_lt {n j:Nat} (h:j<n):nextI n j<n:=by unfold nextI;split <;> omega
theorem nextI_inj {n i j:Nat} (hi:i<n) (hj:j<n) (h:nextI n i=nextI n j):i=j:=by
 unfold nextI at h
 split at h <;> split at h <;> omega
theorem nextI_back {n j:Nat} (hj:j<n):(nextI n j+n-1) % n=j:=by
 unfold nextI
 split
 ·rw[show j+1+n-1=j+n by omega,Nat.add_mod_right,Nat.mod_eq_of_lt hj]
 ·rw[Nat.zero_add,Nat.mod_eq_of_lt (by omega)];omega
theorem star_phi_in {s O:List Nat} (hes:s.length % 2=0) {j:Nat} (hj:j<O.length):at' (phiL (starC s O)) (s.length+2*nextI O.length j)=s.length+2*j+1:=by
 have hn:=nextI_lt hj
 have e:(s.length+2*nextI O.length j) ^^^ 1=s.length+2*nextI O.length j+1:=xor_add (n:=s.length+2*nextI O.length j) (k:=0) (by omega) (by omega)
 rw[phiL_at (by rw[starC_length];omega),e,starC_at (by omega)]
 unfold starF
 rw[if_neg (by omega),if_neg (by omega),show (s.length+2*nextI O.length j+1-s.length) / 2=nextI O.length j by omega,nextI_back hj]
theorem star_phi_out {s O:List Nat} (hes:s.length % 2=0) {j:Nat} (hj:j<O.length):at' (phiL (starC s O)) (s.length+2*j+1)=at' O j:=by
 have e:(s.length+2*j+1) ^^^ 1=s.length+2*j:=xor_add (n:=s.length+2*j) (k:=1) (by omega) (by omega)
 rw[phiL_at (by rw[starC_length];omega),e,starC_at (by omega)]
 unfold starF
 rw[if_neg (by omega),if_pos (by omega),show (s.length+2*j-s.length) / 2=j by omega]
theorem starLs_length {s O:List Nat} (hs:IsPerm s):∀ i,(starLs s O i).length=(sizesL s).length
 | 0=>lists_count hs
 | i+1=>by unfold starLs;rw[outL_len];exact starLs_length hs i
theorem starLs_ne {s O:List Nat} (hs:IsPerm s):∀ i v,v∈starLs s O i→v≠[]
 | 0,v,h=>lists_ne hs v h
 | i+1,v,h=>after_ne (starLs_ne hs i) v h
section
variable {s : List Nat} (hs : IsPerm s) (hes : s.length % 2 = 0) {d : Nat} (hd : d < s.length) {O : List Nat} (hO : orbitL (phiL s) d = O)
include hs hes hd hO
theorem star_face:O.Nodup∧(∀ x,x∈O→x<s.length)∧0<O.length∧(∀ j,j<O.length→at' (phiL s) (at' O j)=at' O (nextI O.length j))∧(∀ x,x<s.length→(at' (phiL s) x∈O↔x∈O))∧∀ x,x∈O→Con s d x:=by
 have hp:=phiL_perm hs hes
 have hpl:=phiL_length s
 have hdp:d<(phiL s).length:=by rw[hpl];exact hd
 subst hO
 refine⟨orbitL_nodup hp hdp,fun x hx=>by rw[←hpl];exact orbitL_lt hp hdp x hx,?_,fun j hj=>orbit_at hp hdp hj,fun x hx=>hp.orbit_next hdp (by rw[hpl];exact hx),fun x hx=>?_⟩
 ·exact Nat.succ_pos _
 ·obtain⟨j,rfl⟩:=(hp.mem_orbit hdp).1 hx
  refine face_con hs hes ⟨hd,?_,j,(it_itf _ _ _).symm⟩
  rw[←hpl];exact hp.it_lt hdp j
theorem star_phi_old {y:Nat} (hy:y<s.length) (ho:y∉O):at' (phiL (starC s O)) y=at' (phiL s) y:=by
 obtain⟨k1,k2,k3,k4,k5,_⟩:=star_face hs hes hd hO
 have hyx:=xor_one_lt hes hy
 rw[phiL_at (by rw[starC_length];omega),starC_at (by omega),phiL_at hy]
 unfold starF
 rw[if_pos hyx,if_neg]
 rw[←phiL_at hy]
 exact fun h=>ho ((k5 y hy).1 h)
theorem star_phi_edge {j:Nat} (hj:j<O.length):at' (phiL (starC s O)) (at' O j)=s.length+2*nextI O.length j:=by
 obtain⟨k1,k2,k3,k4,k5,_⟩:=star_face hs hes hd hO
 have hy:=k2 (at' O j) (by rw[at'_eq hj];exact List.getElem_mem _)
 have hyx:=xor_one_lt hes hy
 rw[phiL_at (by rw[starC_length];omega),starC_at (by omega)]
 unfold starF
 have e:at' s (at' O j ^^^ 1)=at' O (nextI O.length j):=by rw[←phiL_at hy,k4 j hj]
 have hn:=nextI_lt hj
 rw[if_pos hyx,e,if_pos (by rw[at'_eq hn];exact List.getElem_mem _),idx_at k1 hn]
theorem star_tris {D:Nat→Prop} {xss:List (List Nat)} (h:RowsF xss D (at' (phiL (starC s O)))) (hD:∀ y,D y→y<s.length∧y∉O):∀ i,i≤O.length →
  RowsF (xss ++ trisL s O i) (fun y=>D y∨∃ j,j<i∧y∈triL s O j) (at' (phiL (starC s O)))
 | 0,_=>by
  unfold trisL
  rw[List.append_nil]
  exact h.congr (fun y=>⟨Or.inl,fun h=>h.elim id fun ⟨j,h,_⟩=>by omega⟩) fun _ _=>rfl
 | i+1,hi=>by
  obtain⟨k1,k2,k3,k4,k5,_⟩:=star_face hs hes hd hO
  have ih:=star_tris h hD i (by omega)
  have hil:i<O.length:=by omega
  have hn:=nextI_lt hil
  have ho:at' O i∈O:=by rw[at'_eq hil];exact List.getElem_mem _
  have hol:=k2 _ ho
  unfold trisL
  rw[←List.append_assoc]
  refine (ih.more (v:=triL s O i) ?_ (fun x hx=>?_) ?_ fun _ _=>rfl).congr (fun y=>?_) fun _ _=>rfl
  ·unfold triL;simp;omega
  ·rintro (h1|⟨j,hj,h1⟩)
   ·obtain⟨h2,h3⟩:=hD x h1
    unfold triL at hx
    simp only[List.mem_cons,List.not_mem_nil,or_false] at hx
    rcases hx with rfl|h4|h4
    ·exact h3 ho
    ·omega
    ·omega
   ·unfold triL at hx h1
    simp only[List.mem_cons,List.not_mem_nil,or_false] at hx h1
    have hjl:j<O.length:=by omega
    have hjo:=k2 _ (show at' O j∈O by rw[at'_eq hjl];exact List.getElem_mem _)
    have c1:at' O i≠at' O j:=fun e=>by
     rw[at'_eq hil,at'_eq hjl] at e
     have:=nodup_inj k1 _ _ e
     omega
    have c2:nextI O.length i≠nextI O.length j:=fun e=>by
     have:=nextI_inj hil hjl e
     omega
    rcases hx with rfl|rfl|rfl <;> rcases h1 with h1|h1|h1 <;> omega
  ·exact Cy.ch.2 ⟨star_phi_edge hs hes hd hO hil,star_phi_in hes hil,star_phi_out hes hil⟩
  ·constructor
   ·rintro ((h|⟨j,h1,h2⟩)|h)
    ·exact Or.inl h
    ·exact Or.inr ⟨j,by omega,h2⟩
    ·exact Or.inr ⟨i,by omega,h⟩
   ·rintro (h|⟨j,h1,h2⟩)
    ·exact Or.inl (Or.inl h)
    ·by_cases e:j=i
     ·exact Or.inr (e ▸ h2)
     ·exact Or.inl (Or.inr ⟨j,by omega,h2⟩)
theorem star_faces:∃ xss:List (List Nat),RowsOf (xss ++ trisL s O O.length) (phiL (starC s O))∧(∀ v,v∈xss→v≠[])∧xss.length+1=(sizesL (phiL s)).length:=by
 obtain⟨k1,k2,k3,k4,k5,_⟩:=star_face hs hes hd hO
 have hp:=phiL_perm hs hes
 have hpl:=phiL_length s
 have h0:=lists_rowsF hp
 rw[hpl] at h0
 have hro:=lists_rows hp
 rw[hpl] at hro
 obtain⟨v,hv,hdv⟩:=List.mem_flatten.1 ((h0.mem d).2 hd)
 have hpe:=List.perm_cons_erase hv
 have h1:=(h0.perm hpe).tail
 have hvO:∀ y,y<s.length→(y∈v↔y∈O):=fun y hy=>by
  have hc:=hro.cyc hp (x:=d) (y:=y) (by rw[hpl];exact hd) (by rw[hpl];exact hy)
  rw[←hO,hp.mem_orbit (by rw[hpl];exact hd)]
  constructor
  ·intro h
   obtain⟨_,_,j,e⟩:=hc.2 ⟨v,hv,hdv,h⟩
   exact⟨j,by rw[it_itf];exact e⟩
  ·rintro⟨j,e⟩
   obtain⟨u,hu,h4,h5⟩:=hc.1 ⟨by rw[hpl];exact hd,by rw[hpl];exact hy,j,by rw[←it_itf];exact e⟩
   have:=h0.uni hu hv h4 hdv
   subst this
   exact h5
 have h2:=h1.congr (E:=fun y=>y<s.length∧y∉O) (g:=at' (phiL (starC s O))) (fun y=>⟨fun h=>⟨h.1,fun ho=>h.2 ((hvO y h.1).2 ho)⟩,fun h=>⟨h.1,fun ho=>h.2 ((hvO y h.1).1 ho)⟩⟩) (fun y hy=>star_phi_old hs hes hd hO hy.1 (fun ho=>hy.2 ((hvO y hy.1).2 ho)))
 have h3:=star_tris hs hes hd hO h2 (fun y hy=>hy) O.length (Nat.le_refl _)
 have hne:=lists_phi_ne hs hes
 refine⟨(listsL (phiL s) s.length).erase v,h3.rows (fun y=>?_) (fun y _=>rfl),fun u hu=>hne u (List.mem_of_mem_erase hu),?_⟩
 ·rw[phiL_length,starC_length]
  constructor
  ·rintro (h|⟨j,hj,h⟩)
   ·omega
   ·unfold triL at h
    simp only[List.mem_cons,List.not_mem_nil,or_false] at h
    have hn:=nextI_lt hj
    have hjo:=k2 _ (show at' O j∈O by rw[at'_eq hj];exact List.getElem_mem _)
    rcases h with h|h|h <;> omega
  ·intro h
   by_cases c1:y<s.length
   ·by_cases c2:y∈O
    ·obtain⟨j,hj,e⟩:=List.getElem_of_mem c2
     refine Or.inr ⟨j,hj,?_⟩
     unfold triL
     rw[at'_eq hj,e]
     exact List.mem_cons_self ..
    ·exact Or.inl ⟨c1,c2⟩
   ·by_cases c2:(y-s.length) % 2=0
    ·obtain⟨i,hi⟩:∃ i,(y-s.length) / 2=i:=⟨_,rfl⟩
     have hil:i<O.length:=by omega
     obtain⟨j,hj,hji⟩:∃ j,j<O.length∧nextI O.length j=i:=by
      by_cases c3:i=0
      ·exact⟨O.length-1,by omega,by unfold nextI;rw[if_neg (by omega),c3]⟩
      ·exact⟨i-1,by omega,by unfold nextI;rw[if_pos (by omega)];omega⟩
     refine Or.inr ⟨j,hj,?_⟩
     unfold triL
     rw[hji]
     simp only[List.mem_cons,List.not_mem_nil,or_false]
     omega
    ·refine Or.inr ⟨(y-s.length) / 2,by omega,?_⟩
     unfold triL
     simp only[List.mem_cons,List.not_mem_nil,or_false]
     omega
 ·rw[List.length_erase_of_mem hv,lists_phi hs hes]
  have:0<(listsL (phiL s) s.length).length:=List.length_pos_of_mem hv
  rw[lists_phi hs hes] at this
  omega
theorem star_grown:GrownL s (starC s O) 1 (O.length-1):=by
 obtain⟨k1,k2,k3,k4,k5,k6⟩:=star_face hs hes hd hO
 have hr:=star_rows hs k1 k2 k3
 have ht:=hr.isPerm
 have hl:=starC_length s O
 have he:(starC s O).length % 2=0:=by rw[hl];omega
 have pt:=Con.per ht
 have ps:=Con.per hs
 have mem:∀ i,i<O.length→at' O i∈O:=fun i hi=>by rw[at'_eq hi];exact List.getElem_mem _
 have val:∀ x,x<s.length+2*O.length→at' (starC s O) x=starF s O x:=fun x hx=>starC_at hx
 have ev:∀ i,i<O.length→at' (starC s O) (s.length+2*i)=at' O i:=fun i hi=>by
  rw[val _ (by omega)];unfold starF
  rw[if_neg (by omega),if_pos (by omega),show (s.length+2*i-s.length) / 2=i by omega]
 have od:∀ i,i<O.length→at' (starC s O) (s.length+2*i+1)=s.length+2*((i+O.length-1) % O.length)+1:=fun i hi=>by
  rw[val _ (by omega)];unfold starF
  rw[if_neg (by omega),if_neg (by omega),show (s.length+2*i+1-s.length) / 2=i by omega]
 have stp:∀ x,x<s.length+2*O.length→Con (starC s O) x (at' (starC s O) x):=fun x hx=>Con.step ht (by rw[hl];exact hx)
 have cv:∀ i,i<O.length→Con (starC s O) (at' O i) (s.length+2*i):=fun i hi=>by
  have:=stp (s.length+2*i) (by omega)
  rw[ev i hi] at this
  exact pt.symm this
 have me:∀ i,(s.length+2*i) ^^^ 1=s.length+2*i+1:=fun i=>xor_add (n:=s.length+2*i) (k:=0) (by omega) (by omega)
 have mo:∀ i,(s.length+2*i+1) ^^^ 1=s.length+2*i:=fun i=>xor_add (n:=s.length+2*i) (k:=1) (by omega) (by omega)
 have split:∀ x,x<s.length+2*O.length→x<s.length∨∃ i,i<O.length∧(x=s.length+2*i∨x=s.length+2*i+1):=fun x hx=>by
  by_cases h:x<s.length
  ·exact Or.inl h
  ·exact Or.inr ⟨(x-s.length) / 2,by omega,by omega⟩
 obtain⟨π,hπ⟩:∃ π:Nat→Nat,π=fun x=>if x<s.length then x else at' O ((x-s.length) / 2):=⟨_,rfl⟩
 have pold:∀ x,x<s.length→π x=x:=fun x hx=>by rw[hπ];exact if_pos hx
 have pe:∀ i,π (s.length+2*i)=at' O i:=fun i=>by
  rw[hπ]
  show (if s.length+2*i<s.length then _ else _)=_
  rw[if_neg (by omega),show (s.length+2*i-s.length) / 2=i by omega]
 have po:∀ i,π (s.length+2*i+1)=at' O i:=fun i=>by
  rw[hπ]
  show (if s.length+2*i+1<s.length then _ else _)=_
  rw[if_neg (by omega),show (s.length+2*i+1-s.length) / 2=i by omega]
 refine⟨ht,he,?_,?_,?_,by rw[hl];omega⟩
 ·refine parts_grow hs hes ht he (by omega) π pold (fun x hx=>?_) (fun x hx=>?_) (fun x hx=>?_) (fun x hx=>?_) (fun x hx=>?_)
  ·rw[hl] at hx
   rcases split x hx with h|⟨i,hi,rfl|rfl⟩
   ·rw[pold x h];exact h
   ·rw[pe];exact k2 _ (mem i hi)
   ·rw[po];exact k2 _ (mem i hi)
  ·rw[hl] at hx
   rcases split x hx with h|⟨i,hi,rfl|rfl⟩
   ·rw[val x hx,pold x h]
    unfold starF
    rw[if_pos h]
    by_cases h1:at' s x∈O
    ·have hi:=List.idxOf_lt_length_of_mem h1
     rw[if_pos h1,pe,at'_eq hi,List.getElem_idxOf hi]
     exact Con.step hs h
    ·rw[if_neg h1,pold _ (hs.lt h)]
     exact Con.step hs h
   ·rw[ev i hi,pe,pold _ (k2 _ (mem i hi))]
    exact ps.refl (k2 _ (mem i hi))
   ·have hm:=Nat.mod_lt (i+O.length-1) k3
    rw[od i hi,po,po]
    exact ps.trans (ps.symm (k6 _ (mem i hi))) (k6 _ (mem _ hm))
  ·rw[hl] at hx
   rcases split x hx with h|⟨i,hi,rfl|rfl⟩
   ·rw[pold x h,pold _ (xor_one_lt hes h)];exact Con.mate hs hes h
   ·rw[me,pe,po];exact ps.refl (k2 _ (mem i hi))
   ·rw[mo,pe,po];exact ps.refl (k2 _ (mem i hi))
  ·have:=stp x (by omega)
   rw[val x (by omega)] at this
   unfold starF at this
   rw[if_pos hx] at this
   by_cases h1:at' s x∈O
   ·have hi:=List.idxOf_lt_length_of_mem h1
    rw[if_pos h1] at this
    have h2:=cv _ hi
    rw[at'_eq hi,List.getElem_idxOf hi] at h2
    exact pt.trans this (pt.symm h2)
   ·rwa [if_neg h1] at this
  ·rw[hl] at hx
   rcases split x hx with h|⟨i,hi,rfl|rfl⟩
   ·rw[pold x h];exact pt.refl (by rw[hl];exact hx)
   ·rw[pe];exact cv i hi
   ·rw[po]
    have:=Con.mate ht he (x:=s.length+2*i) (by rw[hl];omega)
    rw[me] at this
    exact pt.trans (cv i hi) this
 ·rw[hr.count ht (fun v hv=>by
   rcases List.mem_append.1 hv with hv|hv
   ·exact starLs_ne hs _ v hv
   ·rw[List.mem_singleton.1 hv]
    intro e
    have:=hubL_length s.length O.length
    rw[e] at this
    simp at this
    omega),List.length_append,starLs_length hs]
  simp
 ·obtain⟨xss,h1,h2,h3⟩:=star_faces hs hes hd hO
  rw[h1.count (phiL_perm ht he) (fun v hv=>(List.mem_append.1 hv).elim (h2 v) (trisL_ne s O _ v)),List.length_append,trisL_length]
  omega
end
end
section
set_option linter.unusedVariables false
structure FlipD (s:List Nat) (d m pd pa pm pb:Nat):Prop where
 dl:d<s.length
 ml:m<s.length
 pdl:pd<s.length
 pal:pa<s.length
 pml:pm<s.length
 pbl:pb<s.length
 dm:d ^^^ 1=m
 md:m ^^^ 1=d
 fd:at' (phiL s) d=pd
 fpd:at' (phiL s) pd=pa
 fpa:at' (phiL s) pa=d
 fm:at' (phiL s) m=pm
 fpm:at' (phiL s) pm=pb
 fpb:at' (phiL s) pb=m
 nd:[d,pd,pa,m,pm,pb].Nodup
 od:orbitL (phiL s) d=[d,pd,pa]
 om:orbitL (phiL s) m=[m,pm,pb]
 sd:at' s d≠d
 sm:at' s m≠m
theorem three_orbit {p:List Nat} (hp:IsPerm p) {x:Nat} (hx:x<p.length) (h:(orbitL p x).length=3):orbitL p x=[x,at' p x,at' p (at' p x)]∧at' p (at' p (at' p x))=x:=by
 obtain⟨c,hc,hcl,ho⟩:=orbitL_map hp hx
 have hc3:c=3:=by rw[ho] at h;simpa using h
 have e1:it p 0 x=x:=rfl
 have e2:it p 1 x=at' p x:=rfl
 have e3:it p 2 x=at' p (at' p x):=rfl
 have e4:it p 3 x=at' p (at' p (at' p x)):=rfl
 rw[hc3] at ho hcl
 refine⟨?_,by rw[←e4];exact hcl⟩
 rw[ho]
 simp[List.range_succ,e1,e2,e3]
theorem flipD_of {s:List Nat} (hs:IsPerm s) (hes:s.length % 2=0) {d:Nat} (hd:d<s.length) (k1:(orbitL (phiL s) d).length=3) (k2:(orbitL (phiL s) (d ^^^ 1)).length=3)
  (k3:nth (namesL (phiL s)) d≠nth (namesL (phiL s)) (d ^^^ 1)) (h1:at' s d≠d) (h2:at' s (d ^^^ 1)≠d ^^^ 1):∃ m pd pa pm pb,FlipD s d m pd pa pm pb:=by
 have hml:=xor_one_lt hes hd
 obtain⟨m,hm⟩:∃ m,d ^^^ 1=m:=⟨_,rfl⟩
 have hmm:m ^^^ 1=d:=by rw[←hm,xor_one_one]
 rw[hm] at k2 k3 h2 hml
 have hp:=phiL_perm hs hes
 have hl:=phiL_length s
 obtain⟨o1,c1⟩:=three_orbit hp (by rw[hl];exact hd) k1
 obtain⟨o2,c2⟩:=three_orbit hp (by rw[hl];exact hml) k2
 have n1:=orbitL_nodup hp (i:=d) (by rw[hl];exact hd)
 have n2:=orbitL_nodup hp (i:=m) (by rw[hl];exact hml)
 have lt:∀ x,x<s.length→at' (phiL s) x<s.length:=fun x hx=>by rw[←hl];exact hp.lt (by rw[hl];exact hx)
 have dis:∀ x,x∈orbitL (phiL s) d→x∈orbitL (phiL s) m→False:=fun x hx hy=>by
  have a1:=((names_orbit hp (k:=d) (by rw[hl];exact hd)).1 hx).2
  have a2:=((names_orbit hp (k:=m) (by rw[hl];exact hml)).1 hy).2
  exact k3 (a1.symm.trans a2)
 refine⟨m,_,_,_,_,hd,hml,lt _ hd,lt _ (lt _ hd),lt _ hml,lt _ (lt _ hml),hm,hmm,rfl,rfl,c1,rfl,rfl,c2,?_,o1,o2,h1,h2⟩
 rw[o1] at n1 dis
 rw[o2] at n2 dis
 have:[d,at' (phiL s) d,at' (phiL s) (at' (phiL s) d),m,at' (phiL s) m,at' (phiL s) (at' (phiL s) m)]=[d,at' (phiL s) d,at' (phiL s) (at' (phiL s) d)] ++ [m,at' (phiL s) m,at' (phiL s) (at' (phiL s) m)]:=rfl
 rw[this,List.nodup_append]
 exact⟨n1,n2,fun a ha b hb e=>dis a ha (e ▸ hb)⟩
theorem FlipD.ne {s:List Nat} {d m pd pa pm pb:Nat} (h:FlipD s d m pd pa pm pb):d≠pd∧d≠pa∧d≠m∧d≠pm∧d≠pb∧pd≠pa∧pd≠m∧pd≠pm∧pd≠pb∧pa≠m∧pa≠pm∧pa≠pb∧m≠pm∧m≠pb∧pm≠pb:=by
 have:=h.nd
 simp only[List.nodup_cons,List.mem_cons,not_or,List.not_mem_nil,not_false_eq_true,and_true,List.nodup_nil] at this
 obtain⟨⟨a1,a2,a3,a4,a5⟩,⟨b1,b2,b3,b4⟩,⟨c1,c2,c3⟩,⟨d1,d2⟩,e1⟩:=this
 exact⟨a1,a2,a3,a4,a5,b1,b2,b3,b4,c1,c2,c3,d1,d2,e1⟩
theorem FlipD.back {s:List Nat} (hs:IsPerm s) (hes:s.length % 2=0) {x y:Nat} (hx:x<s.length) (e:at' (phiL s) x=y):at' (invL s) y=x ^^^ 1∧at' s (x ^^^ 1)=y:=by
 have hx2:=xor_one_lt hes hx
 rw[phiL_at hx] at e
 exact⟨by rw[←e,invL_at hs hx2],e⟩
section
variable {s : List Nat} (hs : IsPerm s) (hes : s.length % 2 = 0) {d m pd pa pm pb : Nat} (h : FlipD s d m pd pa pm pb)
include hs hes h
theorem FlipD.rows:RowsOf (outL (aftF (pm ^^^ 1) m) (outL (aftF (pd ^^^ 1) d) (outL (witF m) (outL (witF d) (listsL s s.length))))) (flipL s d):=by
 obtain⟨n1,n2,n3,n4,n5,n6,n7,n8,n9,n10,n11,n12,n13,n14,n15⟩:=FlipD.ne h
 have x1:∀ {a b},a≠b→a ^^^ 1≠b ^^^ 1:=fun {a b} hab e=>hab (by rw[←xor_one_one a,e,xor_one_one])
 have sdm:at' s d=pm:=by rw[←h.fm,phiL_at h.ml,h.md]
 have smd:at' s m=pd:=by rw[←h.fd,phiL_at h.dl,h.dm]
 refine flip_rows hs h.dm h.dl h.ml ?_ ?_ (xor_one_lt hes h.pdl) (xor_one_lt hes h.pml) h.sd h.sm (by rw[sdm];exact fun e=>n13 e.symm) (by rw[smd];exact fun e=>n1 e.symm) ?_ ?_ ?_ ?_
 ·rw[h.fd,h.fpd];exact (FlipD.back hs hes h.pdl h.fpd).1
 ·rw[h.fm,h.fpm];exact (FlipD.back hs hes h.pml h.fpm).1
 ·have:=x1 n7;rwa [h.md] at this
 ·have:=x1 (Ne.symm n1);rwa [h.dm] at this
 ·have:=x1 (Ne.symm n13);rwa [h.md] at this
 ·have:=x1 (Ne.symm n4);rwa [h.dm] at this
theorem FlipD.at_ {y:Nat} (hy:y<s.length):at' (flipL s d) y=if y=pm ^^^ 1 then m else if y=m then pb else if y=pd ^^^ 1 then d else if y=d then pa else if y=pa ^^^ 1 then pm else if y=pb ^^^ 1 then pd else at' s y:=by
 obtain⟨n1,n2,n3,n4,n5,n6,n7,n8,n9,n10,n11,n12,n13,n14,n15⟩:=FlipD.ne h
 have x1:∀ {a b},a≠b→a ^^^ 1≠b ^^^ 1:=fun {a b} hab e=>hab (by rw[←xor_one_one a,e,xor_one_one])
 have hr:=(FlipD.rows hs hes h)
 have hlen:=flipL_length s d
 have sdm:at' s d=pm:=by rw[←h.fm,phiL_at h.ml,h.md]
 have smd:at' s m=pd:=by rw[←h.fd,phiL_at h.dl,h.dm]
 have bpd:=(FlipD.back hs hes h.pdl h.fpd).2
 have bpm:=(FlipD.back hs hes h.pml h.fpm).2
 have bpa:=(FlipD.back hs hes h.pal h.fpa).2
 have bpb:=(FlipD.back hs hes h.pbl h.fpb).2
 have key:at' (flipL s d) y=insF (insF (delF (delF (at' s) d) m) (pd ^^^ 1) d) (pm ^^^ 1) m y:=by
  have e1:pd ^^^ 1≠d:=by have:=x1 n7;rwa [h.md] at this
  have e2:pd ^^^ 1≠m:=by have:=x1 (Ne.symm n1);rwa [h.dm] at this
  have e3:pm ^^^ 1≠d:=by have:=x1 (Ne.symm n13);rwa [h.md] at this
  have e4:pm ^^^ 1≠m:=by have:=x1 (Ne.symm n4);rwa [h.dm] at this
  have r1:=((((lists_rowsF hs).without d).without m).after (t:=pd ^^^ 1) (d:=d) ⟨⟨xor_one_lt hes h.pdl,e1⟩,e2⟩ (fun h=>h.1.2 rfl)).after (t:=pm ^^^ 1) (d:=m) (Or.inl ⟨⟨xor_one_lt hes h.pml,e3⟩,e4⟩) (fun h=>h.elim (fun h=>h.2 rfl) fun e=>n3 e.symm)
  obtain⟨v,hv,hyv⟩:=List.mem_flatten.1 ((hr.mem y).2 (by rw[hlen];exact hy))
  obtain⟨j,hj,rfl⟩:=List.getElem_of_mem hyv
  have c1:=hr.next v hv j hj
  have c2:=r1.next v hv j hj
  rw[at'_eq hj] at c1 c2
  rw[c1,c2]
 rw[key]
 have d1:∀ x,at' s x≠d→at' s x≠m→delF (delF (at' s) d) m x=at' s x:=fun x e1 e2=>by rw[delF_o (by rw[delF_o e1];exact e2),delF_o e1]
 by_cases c1:y=pm ^^^ 1
 ·rw[if_pos c1,c1,insF_t]
 rw[if_neg c1]
 have m1:m≠pm ^^^ 1:=fun e=>n4 (by rw[←h.md,e,xor_one_one])
 by_cases c2:y=m
 ·rw[if_pos c2,c2,insF_d m1,insF_o (x1 (Ne.symm n8)) (fun e=>n13 (by rw[←h.dm,←e,xor_one_one])),d1 _ (by rw[bpm];exact Ne.symm n5) (by rw[bpm];exact Ne.symm n14),bpm]
 rw[if_neg c2,insF_o c1 c2]
 by_cases c3:y=pd ^^^ 1
 ·rw[if_pos c3,c3,insF_t]
 rw[if_neg c3]
 by_cases c4:y=d
 ·rw[if_pos c4,c4,insF_d (fun e=>n7 (by rw[←xor_one_one pd,←e,h.dm])),d1 _ (by rw[bpd];exact Ne.symm n2) (by rw[bpd];exact n10),bpd]
 rw[if_neg c4,insF_o c3 c4]
 by_cases c5:y=pa ^^^ 1
 ·rw[if_pos c5,c5,delF_o (by rw[delF_d bpa,sdm];exact Ne.symm n13),delF_d bpa,sdm]
 rw[if_neg c5]
 have ysd:at' s y≠d:=fun e=>c5 (hs.inj hy (xor_one_lt hes h.pal) (by rw[e,bpa]))
 by_cases c6:y=pb ^^^ 1
 ·rw[if_pos c6,c6,delF_d (by rw[delF_o (by rw[bpb];exact Ne.symm n3),bpb]),delF_o (by rw[smd];exact Ne.symm n1),smd]
 rw[if_neg c6]
 exact d1 y ysd fun e=>c6 (hs.inj hy (xor_one_lt hes h.pbl) (by rw[e,bpb]))
theorem FlipD.phi {y:Nat} (hy:y<s.length):at' (phiL (flipL s d)) y=if y=pm then m else if y=d then pb else if y=pd then d else if y=m then pa else if y=pa then pm else if y=pb then pd else at' (phiL s) y:=by
 have hyx:=xor_one_lt hes hy
 rw[phiL_at (by rw[flipL_length];exact hy),FlipD.at_ hs hes h hyx,phiL_at hy]
 have e:∀ x,y ^^^ 1=x ^^^ 1↔y=x:=fun x=>⟨fun e=>by rw[←xor_one_one y,e,xor_one_one],fun e=>by rw[e]⟩
 have ed:y ^^^ 1=d↔y=m:=by rw[←h.md];exact e m
 have em:y ^^^ 1=m↔y=d:=by rw[←h.dm];exact e d
 simp only[e,ed,em]
theorem FlipD.grown:GrownL s (flipL s d) 0 0:=by
 obtain⟨n1,n2,n3,n4,n5,n6,n7,n8,n9,n10,n11,n12,n13,n14,n15⟩:=FlipD.ne h
 have hr:=FlipD.rows hs hes h
 have ht:=hr.isPerm
 have hl:=flipL_length s d
 have he:(flipL s d).length % 2=0:=by rw[hl];exact hes
 have pt:=Con.per ht
 have ps:=Con.per hs
 have hp:=phiL_perm hs hes
 have hpl:=phiL_length s
 have sdm:at' s d=pm:=by rw[←h.fm,phiL_at h.ml,h.md]
 have smd:at' s m=pd:=by rw[←h.fd,phiL_at h.dl,h.dm]
 have stp:∀ x,x<s.length→Con (flipL s d) x (at' (flipL s d) x):=fun x hx=>Con.step ht (by rw[hl];exact hx)
 have mt:∀ x,x<s.length→Con (flipL s d) x (x ^^^ 1):=fun x hx=>Con.mate ht he (by rw[hl];exact hx)
 have smt:∀ x,x<s.length→Con s x (x ^^^ 1):=fun x hx=>Con.mate hs hes hx
 have sst:∀ x,x<s.length→Con s x (at' s x):=fun x hx=>Con.step hs hx
 refine⟨ht,he,?_,?_,?_,by rw[hl];omega⟩
 ·have fc:∀ x,x<s.length→Con s x (at' (phiL s) x):=fun x hx=>by
   rw[phiL_at hx];exact ps.trans (smt x hx) (sst _ (xor_one_lt hes hx))
  have k1:Con s d pd:=by have:=fc d h.dl;rwa [h.fd] at this
  have k2:Con s pd pa:=by have:=fc pd h.pdl;rwa [h.fpd] at this
  have k3:Con s m pm:=by have:=fc m h.ml;rwa [h.fm] at this
  have k4:Con s pm pb:=by have:=fc pm h.pml;rwa [h.fpm] at this
  have k5:Con s d m:=by have:=smt d h.dl;rwa [h.dm] at this
  refine parts_grow hs hes ht he (by rw[hl];exact Nat.le_refl _) id (fun x _=>rfl) (fun x hx=>by rw[hl] at hx;exact hx) (fun x hx=>?_) (fun x hx=>?_) (fun x hx=>?_) (fun x hx=>?_)
  ·rw[hl] at hx
   show Con s x (at' (flipL s d) x)
   rw[FlipD.at_ hs hes h hx]
   by_cases c1:x=pm ^^^ 1
   ·rw[if_pos c1,c1];exact ps.trans (ps.symm (smt pm h.pml)) (ps.symm k3)
   rw[if_neg c1]
   by_cases c2:x=m
   ·rw[if_pos c2,c2];exact ps.trans k3 k4
   rw[if_neg c2]
   by_cases c3:x=pd ^^^ 1
   ·rw[if_pos c3,c3];exact ps.trans (ps.symm (smt pd h.pdl)) (ps.symm k1)
   rw[if_neg c3]
   by_cases c4:x=d
   ·rw[if_pos c4,c4];exact ps.trans k1 k2
   rw[if_neg c4]
   by_cases c5:x=pa ^^^ 1
   ·rw[if_pos c5,c5];exact ps.trans (ps.symm (smt pa h.pal)) (ps.trans (ps.symm (ps.trans k1 k2)) (ps.trans k5 k3))
   rw[if_neg c5]
   by_cases c6:x=pb ^^^ 1
   ·rw[if_pos c6,c6];exact ps.trans (ps.symm (smt pb h.pbl)) (ps.trans (ps.symm (ps.trans k3 k4)) (ps.trans (ps.symm k5) k1))
   rw[if_neg c6]
   exact sst x hx
  ·rw[hl] at hx
   exact smt x hx
  ·have vm:at' (flipL s d) (pm ^^^ 1)=m:=by rw[FlipD.at_ hs hes h (xor_one_lt hes h.pml),if_pos rfl]
   have vd:at' (flipL s d) (pd ^^^ 1)=d:=by
    rw[FlipD.at_ hs hes h (xor_one_lt hes h.pdl),if_neg (fun e=>n8 (by rw[←xor_one_one pd,e,xor_one_one])),if_neg (fun e=>n1 (by rw[←h.md,←e,xor_one_one])),if_pos rfl]
   have g1:Con (flipL s d) pm m:=by
    have:=stp (pm ^^^ 1) (xor_one_lt hes h.pml)
    rw[vm] at this
    exact pt.trans (mt pm h.pml) this
   have g2:Con (flipL s d) pd d:=by
    have:=stp (pd ^^^ 1) (xor_one_lt hes h.pdl)
    rw[vd] at this
    exact pt.trans (mt pd h.pdl) this
   have g3:Con (flipL s d) d m:=by have:=mt d h.dl;rwa [h.dm] at this
   have go:∀ y,Con (flipL s d) x y→at' (flipL s d) x=y→True:=fun _ _ _=>trivial
   have hxs:=stp x (by omega)
   by_cases c1:x=pm ^^^ 1
   ·rw[c1]
    have e:at' s (pm ^^^ 1)=pb:=(FlipD.back hs hes h.pml h.fpm).2
    rw[e]
    have:=stp m h.ml
    rw[FlipD.at_ hs hes h h.ml,if_neg (fun e=>n4 (by rw[←h.md,e,xor_one_one])),if_pos rfl] at this
    exact pt.trans (pt.symm (mt pm h.pml)) (pt.trans g1 this)
   by_cases c2:x=m
   ·rw[c2,smd];exact pt.trans (pt.symm g3) (pt.symm g2)
   by_cases c3:x=pd ^^^ 1
   ·rw[c3]
    have e:at' s (pd ^^^ 1)=pa:=(FlipD.back hs hes h.pdl h.fpd).2
    rw[e]
    have:=stp d h.dl
    rw[FlipD.at_ hs hes h h.dl,if_neg (fun e=>n13 (by rw[←h.dm,e,xor_one_one])),if_neg n3,if_neg (fun e=>n7 (by rw[←h.dm,e,xor_one_one])),if_pos rfl] at this
    exact pt.trans (pt.symm (mt pd h.pdl)) (pt.trans g2 this)
   by_cases c4:x=d
   ·rw[c4,sdm];exact pt.trans g3 (pt.symm g1)
   rw[FlipD.at_ hs hes h hx,if_neg c1,if_neg c2,if_neg c3,if_neg c4] at hxs
   by_cases c5:x=pa ^^^ 1
   ·have e:at' s x=d:=by rw[c5];exact (FlipD.back hs hes h.pal h.fpa).2
    rw[if_pos c5] at hxs
    rw[e]
    exact pt.trans hxs (pt.trans g1 (pt.symm g3))
   rw[if_neg c5] at hxs
   by_cases c6:x=pb ^^^ 1
   ·have e:at' s x=m:=by rw[c6];exact (FlipD.back hs hes h.pbl h.fpb).2
    rw[if_pos c6] at hxs
    rw[e]
    exact pt.trans hxs (pt.trans g2 g3)
   rwa [if_neg c6] at hxs
  ·rw[hl] at hx
   exact pt.refl (by rw[hl];exact hx)
 ·rw[hr.count ht (fun v hv=>by
   unfold outL at hv
   obtain⟨u3,hu3,rfl⟩:=List.mem_map.1 hv
   refine after_ne (t:=pm ^^^ 1) (d:=m) (xss:=[u3]) (fun w hw=>?_) _ (List.mem_map.2 ⟨u3,List.mem_singleton.2 rfl,rfl⟩)
   rw[List.mem_singleton.1 hw]
   obtain⟨u2,hu2,rfl⟩:=List.mem_map.1 hu3
   refine after_ne (t:=pd ^^^ 1) (d:=d) (xss:=[u2]) (fun w hw=>?_) _ (List.mem_map.2 ⟨u2,List.mem_singleton.2 rfl,rfl⟩)
   rw[List.mem_singleton.1 hw]
   obtain⟨u1,hu1,rfl⟩:=List.mem_map.1 hu2
   obtain⟨u0,hu0,rfl⟩:=List.mem_map.1 hu1
   rw[flat_wit,flat_wit,List.filter_filter]
   have h0:=lists_rowsF hs
   obtain⟨x,hx⟩:=List.exists_mem_of_ne_nil u0 (lists_ne hs u0 hu0)
   obtain⟨y,hy,hyd,hym⟩:∃ y,y∈u0∧y≠d∧y≠m:=by
    by_cases c1:x=d
    ·refine⟨at' s x,h0.f_mem hu0 hx,?_,?_⟩
     ·rw[c1];exact h.sd
     ·rw[c1,sdm];exact Ne.symm n13
    ·by_cases c2:x=m
     ·refine⟨at' s x,h0.f_mem hu0 hx,?_,?_⟩
      ·rw[c2,smd];exact Ne.symm n1
      ·rw[c2];exact h.sm
     ·exact⟨x,hx,c1,c2⟩
   exact List.ne_nil_of_mem (List.mem_filter.2 ⟨hy,by simp[hyd,hym]⟩)),outL_len,outL_len,outL_len,outL_len,lists_count hs]
  simp
 ·-- two faces for two
  have h0:=lists_rowsF hp
  rw[hpl] at h0
  have hro:=lists_rows hp
  rw[hpl] at hro
  have rowOf:∀ x,x<s.length→∃ v,v∈listsL (phiL s) s.length∧∀ y,y<s.length→(y∈v↔y∈orbitL (phiL s) x):=fun x hx=>by
   obtain⟨v,hv,hxv⟩:=List.mem_flatten.1 ((h0.mem x).2 hx)
   refine⟨v,hv,fun y hy=>?_⟩
   have hc:=hro.cyc hp (x:=x) (y:=y) (by rw[hpl];exact hx) (by rw[hpl];exact hy)
   rw[hp.mem_orbit (by rw[hpl];exact hx)]
   constructor
   ·intro k
    obtain⟨_,_,j,e⟩:=hc.2 ⟨v,hv,hxv,k⟩
    exact⟨j,by rw[it_itf];exact e⟩
   ·rintro⟨j,e⟩
    obtain⟨u,hu,h4,h5⟩:=hc.1 ⟨by rw[hpl];exact hx,by rw[hpl];exact hy,j,by rw[←it_itf];exact e⟩
    have:=h0.uni hu hv h4 hxv
    subst this
    exact h5
  obtain⟨v,hv,hvm⟩:=rowOf d h.dl
  obtain⟨u,hu,hum⟩:=rowOf m h.ml
  rw[h.od] at hvm
  rw[h.om] at hum
  have huv:u≠v:=fun e=>by
   have h1:=(hum m h.ml).2 (List.mem_cons_self ..)
   rw[e] at h1
   have:=(hvm m h.ml).1 h1
   simp only[List.mem_cons,List.not_mem_nil,or_false] at this
   omega
  have hpe:=List.perm_cons_erase hv
  have hu2:u∈(listsL (phiL s) s.length).erase v:=(List.mem_erase_of_ne huv).2 hu
  have hpe2:=List.perm_cons_erase hu2
  have r1:=((h0.perm hpe).tail.perm hpe2).tail
  obtain⟨E,hE⟩:∃ E:Nat→Prop,E=fun y=>y<s.length∧y∉[d,pd,pa]∧y∉[m,pm,pb]:=⟨_,rfl⟩
  have r2:=r1.congr (E:=E) (g:=at' (phiL (flipL s d))) (fun y=>by
   rw[hE]
   exact⟨fun k=>⟨k.1.1,fun q=>k.1.2 ((hvm y k.1.1).2 q),fun q=>k.2 ((hum y k.1.1).2 q)⟩,fun k=>⟨⟨k.1,fun q=>k.2.1 ((hvm y k.1).1 q)⟩,fun q=>k.2.2 ((hum y k.1).1 q)⟩⟩) (fun y hy=>by
   have q1:y∉[d,pd,pa]:=fun q=>hy.1.2 ((hvm y hy.1.1).2 q)
   have q2:y∉[m,pm,pb]:=fun q=>hy.2 ((hum y hy.1.1).2 q)
   simp only[List.mem_cons,List.not_mem_nil,or_false,not_or] at q1 q2
   rw[FlipD.phi hs hes h hy.1.1,if_neg q2.2.1,if_neg q1.1,if_neg q1.2.1,if_neg q2.1,if_neg q1.2.2,if_neg q2.2.2])
  have f1:at' (phiL (flipL s d)) d=pb:=by rw[FlipD.phi hs hes h h.dl,if_neg n4,if_pos rfl]
  have f2:at' (phiL (flipL s d)) pb=pd:=by rw[FlipD.phi hs hes h h.pbl,if_neg (Ne.symm n15),if_neg (Ne.symm n5),if_neg (Ne.symm n9),if_neg (Ne.symm n14),if_neg (Ne.symm n12),if_pos rfl]
  have f3:at' (phiL (flipL s d)) pd=d:=by rw[FlipD.phi hs hes h h.pdl,if_neg n8,if_neg (Ne.symm n1),if_pos rfl]
  have f4:at' (phiL (flipL s d)) m=pa:=by rw[FlipD.phi hs hes h h.ml,if_neg n13,if_neg (Ne.symm n3),if_neg (Ne.symm n7),if_pos rfl]
  have f5:at' (phiL (flipL s d)) pa=pm:=by rw[FlipD.phi hs hes h h.pal,if_neg n11,if_neg (Ne.symm n2),if_neg (Ne.symm n6),if_neg n10,if_pos rfl]
  have f6:at' (phiL (flipL s d)) pm=m:=by rw[FlipD.phi hs hes h h.pml,if_pos rfl]
  have r3:=r2.more (v:=[d,pb,pd]) (by simp;omega) (fun x hx k=>by
   rw[hE] at k
   simp only[List.mem_cons,List.not_mem_nil,or_false,not_or] at hx k
   omega) (Cy.ch.2 ⟨f1,f2,f3⟩) (fun _ _=>rfl)
  have r4:=r3.more (v:=[m,pa,pm]) (by simp;omega) (fun x hx k=>by
   rw[hE] at k
   simp only[List.mem_cons,List.not_mem_nil,or_false,not_or] at hx k
   omega) (Cy.ch.2 ⟨f4,f5,f6⟩) (fun _ _=>rfl)
  have r5:RowsOf _ (phiL (flipL s d)):=r4.rows (fun y=>by
   rw[phiL_length,hl,hE]
   simp only[List.mem_cons,List.not_mem_nil,or_false,not_or]
   have:=h.dl;have:=h.ml;have:=h.pdl;have:=h.pal;have:=h.pml;have:=h.pbl
   omega) (fun _ _=>rfl)
  have hne:=lists_phi_ne hs hes
  rw[r5.count (phiL_perm ht he) (fun w hw=>by
   rcases List.mem_append.1 hw with hw|hw
   ·rcases List.mem_append.1 hw with hw|hw
    ·exact hne w (List.mem_of_mem_erase (List.mem_of_mem_erase hw))
    ·rw[List.mem_singleton.1 hw];simp
   ·rw[List.mem_singleton.1 hw];simp),List.length_append,List.length_append,List.length_erase_of_mem hu2,List.length_erase_of_mem hv,lists_phi hs hes]
  have e1:0<(listsL (phiL s) s.length).length:=List.length_pos_of_mem hv
  have e2:0<((listsL (phiL s) s.length).erase v).length:=List.length_pos_of_mem hu2
  rw[List.length_erase_of_mem hv] at e2
  rw[lists_phi hs hes] at e1 e2
  simp only[List.length_singleton]
  omega
end
end
end Go.Proofs.YtgphnkkdmlohlaaGreatDoor
