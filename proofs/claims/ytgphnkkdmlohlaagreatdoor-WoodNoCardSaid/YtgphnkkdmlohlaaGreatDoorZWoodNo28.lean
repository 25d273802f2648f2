/- The shelling order of a triangulation: who stands ahead of whom. -/
import Derived.Test.YtgphnkkdmlohlaaGreatDoorZWoodNo27
namespace Go.Proofs.YtgphnkkdmlohlaaGreatDoor
section
set_option linter.unusedVariables false
set_option linter.unusedSectionVars false
theorem nth_at {l:List Int} {i:Nat} (h:i<l.length):nth l i=l[i]:=by unfold nth;rw[List.getD_eq_getElem?_getD,List.getElem?_eq_getElem h];rfl
theorem nth_mem {l:List Int} {i:Nat} (h:i<l.length):nth l i∈l:=by rw[nth_at h];exact List.getElem_mem h
theorem mem_nth {l:List Int} {v:Int} (h:v∈l):∃ i,i<l.length∧nth l i=v:=by
 obtain⟨i,hi,e⟩:=List.getElem_of_mem h
 exact⟨i,hi,by rw[nth_at hi,e]⟩
def Place (L:List Int) (pl:Int→Nat):Prop:=∀ i,i<L.length→pl (nth L i)=i
section
variable {s : List Nat} (h : TriS s) {r : Nat} (hr : r < s.length) {A : List Nat} {out : List Int} (hR : ShRun s r A out) (h2 : A.length < 2)
 {pl:Int→Nat} (hp:Place (nth (namesL s) r :: nth (namesL s) (at' (phiL s) r) :: out.reverse) pl)
include h hr hR h2 hp
theorem pl_first:pl (nth (namesL s) r)=0:=by have:=hp 0 (by simp);simpa [nth] using this
theorem pl_second:pl (nth (namesL s) (at' (phiL s) r))=1:=by have:=hp 1 (by simp);simpa [nth] using this
theorem pl_out {t:Nat} (ht:t<out.length):pl (nth out t)=out.length+1-t:=by
 have:=hp (out.length+1-t) (by simp;omega)
 have e:nth (nth (namesL s) r :: nth (namesL s) (at' (phiL s) r) :: out.reverse) (out.length+1-t)=nth out t:=by
  obtain⟨k,hk⟩:∃ k,out.length+1-t=k+2:=⟨out.length-1-t,by omega⟩
  rw[hk]
  have e1:nth (nth (namesL s) r :: nth (namesL s) (at' (phiL s) r) :: out.reverse) (k+2)=nth out.reverse k:=by simp[nth]
  rw[e1,nth_at (by simp;omega),nth_at ht,List.getElem_reverse]
  congr 1
  omega
 rw[e] at this
 exact this
theorem pl_cases {x:Nat} (hx:x<s.length):nth (namesL s) x=nth (namesL s) r∨nth (namesL s) x=nth (namesL s) (at' (phiL s) r)∨∃ t,t<out.length∧nth (namesL s) x=nth out t:=by
 obtain⟨k1,k2⟩:=h.name hx
 have:=(hR.all h hr h2).2 (nth (namesL s) x).toNat (by omega)
 rw[show (((nth (namesL s) x).toNat:Nat):Int)=nth (namesL s) x by omega] at this
 simp only[List.mem_cons,List.mem_reverse] at this
 rcases this with k|k|k
 ·exact .inl k
 ·exact .inr (.inl k)
 ·obtain⟨i,hi,e⟩:=mem_nth k
  exact .inr (.inr ⟨i,hi,e.symm⟩)
theorem out_one {t u:Nat} (ht:t<out.length) (hu:u<out.length) (e:nth out t=nth out u):t=u:=by
 rw[nth_at ht,nth_at hu] at e
 exact nodup_idx hR.one ht hu e
theorem take_mem {t u:Nat} (ht:t<out.length) (hu:u<out.length):nth out u∈out.take t↔u<t:=by
 constructor
 ·intro k
  obtain⟨i,hi,e⟩:=mem_nth k
  have hi':i<t:=by rw[List.length_take] at hi;omega
  have e2:nth (out.take t) i=nth out i:=by rw[nth_at hi,nth_at (by omega),List.getElem_take]
  rw[e2] at e
  have:=out_one h hr hR h2 hp (by omega) hu e
  omega
 ·intro k
  have:nth (out.take t) u=nth out u:=by rw[nth_at (by rw[List.length_take];omega),nth_at hu,List.getElem_take]
  rw[←this]
  exact nth_mem (by rw[List.length_take];omega)
theorem pl_ahead {t x:Nat} (ht:t<out.length) (hx:x<s.length) (e:nth (namesL s) x=nth out t):pl (nth (namesL s) (x ^^^ 1))<pl (nth (namesL s) x)↔¬ goneP s (out.take t) (x ^^^ 1):=by
 have hm:=xor_one_lt h.even hx
 obtain⟨n1,n2,_⟩:=hR.ends h hr
 rw[e,pl_out h hr hR h2 hp ht]
 have sub:∀ v,v∈out.take t→v∈out:=fun v hv=>List.mem_of_mem_take hv
 rcases pl_cases h hr hR h2 hp hm with k|k|⟨u,hu,k⟩
 ·rw[k,pl_first h hr hR h2 hp]
  exact⟨fun _ q=>n1 (by rw[←k];exact sub _ q.2),fun _=>by omega⟩
 ·rw[k,pl_second h hr hR h2 hp]
  exact⟨fun _ q=>n2 (by rw[←k];exact sub _ q.2),fun _=>by omega⟩
 ·rw[k,pl_out h hr hR h2 hp hu]
  have hne:u≠t:=fun e2=>h.loop x hx (by rw[e,k,e2])
  have hg:goneP s (out.take t) (x ^^^ 1)↔u<t:=by
   unfold goneP
   rw[k,take_mem h hr hR h2 hp ht hu]
   exact⟨fun q=>q.2,fun q=>⟨hm,q⟩⟩
  rw[hg]
  omega
end
end
section
set_option linter.unusedVariables false
set_option linter.unusedSectionVars false
theorem tally_perm {n:Nat} {f:Nat→Nat} (h:Pm n f) (p:Nat→Prop):tally (fun x=>p (f x)) n=tally p n:=by
 refine Nat.le_antisymm (tally_inj f (fun x hx q=>⟨h.lt hx,q⟩) (fun x y hx hy _ _ e=>h.inj hx hy e)) ?_
 classical
 have hp:∀ x,x<n→∃ a,a<n∧f a=x:=fun x hx=>h.pre hx
 refine tally_inj (fun x=>if q:x<n then Classical.choose (hp x q) else 0) (fun x hx q=>?_) (fun x y hx hy _ _ e=>?_)
 ·simp only[dif_pos hx]
  obtain⟨k1,k2⟩:=Classical.choose_spec (hp x hx)
  exact⟨k1,by rw[k2];exact q⟩
 ·simp only[dif_pos hx,dif_pos hy] at e
  rw[←(Classical.choose_spec (hp x hx)).2,←(Classical.choose_spec (hp y hy)).2,e]
section
variable {s : List Nat} (h : TriS s)
include h
theorem TriS.faces3:s.length=3*(sizesL (phiL s)).length:=by
 have hp:=phiL_perm h.perm h.even
 have hl:=phiL_length s
 have hP:Pm s.length (at' (phiL s)):=by have t:=hp.pm;rwa [hl] at t
 have e1:(sizesL (phiL s)).length=tally (Least (cyc s.length (at' (phiL s)))) s.length:=by
  rw[←(phi_ord h.perm h.even).cnt_eq (Nat.le_refl _)]
  have t:=sizesGo_length hp _ (Nat.le_refl _)
  rw[sizesGo_all,hl] at t
  exact t
 obtain⟨φ,hφ⟩:∃ φ,at' (phiL s)=φ:=⟨_,rfl⟩
 rw[hφ] at hP e1
 have h3:∀ x,x<s.length→φ (φ (φ x))=x∧φ x≠x:=fun x hx=>by rw[←hφ];exact h.three x hx
 obtain⟨Lf,hL⟩:∃ Lf,Least (cyc s.length φ)=Lf:=⟨_,rfl⟩
 rw[hL] at e1
 have same:∀ x y,x<s.length→y<s.length→cyc s.length φ x y→Lf x→Lf y→x=y:=fun x y hx hy hc q1 q2=>by
  rw[←hL] at q1 q2;exact hP.per.least_one q1 q2 hc
 have c1:∀ x,x<s.length→cyc s.length φ x (φ x):=fun x hx=>hP.step hx
 have lt1:∀ x,x<s.length→φ x<s.length:=fun x hx=>hP.lt hx
 have n2:∀ x,x<s.length→φ (φ x)≠x:=fun x hx e=>(h3 x hx).2 (by have:=(h3 x hx).1;rw[e] at this;exact this)
 have some:∀ x,x<s.length→Lf x∨Lf (φ x)∨Lf (φ (φ x)):=fun x hx=>by
  obtain⟨l,_,hc,hl⟩:=hP.per.least x hx
  rw[hL] at hl
  obtain⟨_,_,j,ej⟩:=hP.per.symm hc
  have:∀ j,itf φ j x=x∨itf φ j x=φ x∨itf φ j x=φ (φ x):=fun j=>by
   induction j with
   | zero=>exact .inl rfl
   | succ j ih=>
    rw[itf_succ]
    rcases ih with e|e|e <;> rw[e]
    ·exact .inr (.inl rfl)
    ·exact .inr (.inr rfl)
    ·exact .inl (h3 x hx).1
  rcases this j with e|e|e
  ·exact .inl (by rw[←e,ej];exact hl)
  ·exact .inr (.inl (by rw[←e,ej];exact hl))
  ·exact .inr (.inr (by rw[←e,ej];exact hl))
 have t0:tally Any s.length=s.length:=tally_all fun _ _=>trivial
 have t1:=tally_split Any Lf s.length
 have t2:=tally_split (fun x=>Any x∧¬ Lf x) (fun x=>Lf (φ x)) s.length
 have a1:tally (fun x=>Any x∧Lf x) s.length=tally Lf s.length:=tally_congr fun _ _=>⟨fun q=>q.2,fun q=>⟨trivial,q⟩⟩
 have a2:tally (fun x=>(Any x∧¬ Lf x)∧Lf (φ x)) s.length=tally (fun x=>Lf (φ x)) s.length:=tally_congr fun x hx=>⟨fun q=>q.2,fun q=>⟨⟨trivial,fun q2=>(h3 x hx).2 (same _ _ (lt1 x hx) hx (hP.per.symm (c1 x hx)) q q2)⟩,q⟩⟩
 have a3:tally (fun x=>(Any x∧¬ Lf x)∧¬ Lf (φ x)) s.length=tally (fun x=>Lf (φ (φ x))) s.length:=tally_congr fun x hx=>by
  have hx1:=lt1 x hx
  have hx2:=lt1 _ hx1
  constructor
  ·rintro⟨⟨_,q1⟩,q2⟩
   rcases some x hx with q|q|q
   ·exact absurd q q1
   ·exact absurd q q2
   ·exact q
  ·intro q
   refine⟨⟨trivial,fun q2=>n2 x hx (same _ _ hx2 hx (hP.per.symm (hP.per.trans (c1 x hx) (c1 _ hx1))) q q2)⟩,fun q2=>(h3 _ hx1).2 (same _ _ hx2 hx1 (hP.per.symm (c1 _ hx1)) q q2)⟩
 rw[tally_perm hP] at a2
 have a4:tally (fun x=>Lf (φ (φ x))) s.length=tally Lf s.length:=by
  rw[show (fun x=>Lf (φ (φ x)))=fun x=>(fun y=>Lf (φ y)) (φ x) from rfl,tally_perm hP (fun y=>Lf (φ y)),tally_perm hP]
 omega
theorem TriS.edges6:s.length / 2+6=3*(sizesL s).length:=by
 have e1:=h.faces3
 have e2:=euler_plane h.perm h.even h.parts h.genus
 have e3:=h.even
 omega
end
end
section
set_option linter.unusedVariables false
set_option linter.unusedSectionVars false
section
variable {s : List Nat} (h : TriS s) {r : Nat} (hr : r < s.length) {pl : Int → Nat} (hp : Place (orderL s r) pl)
include h hr hp
theorem place_of {x:Nat} (hx:x<s.length):pl (nth (namesL s) x)<(sizesL s).length∧nth (orderL s r) (pl (nth (namesL s) x))=nth (namesL s) x:=by
 obtain⟨i,hi,e⟩:=mem_nth ((order_mem h hr _).2 (h.name hx))
 have:=hp i hi
 rw[e] at this
 rw[this,←order_len h hr]
 exact⟨hi,e⟩
theorem place_inj {x y:Nat} (hx:x<s.length) (hy:y<s.length) (e:pl (nth (namesL s) x)=pl (nth (namesL s) y)):nth (namesL s) x=nth (namesL s) y:=by
 rw[←(place_of h hr hp hx).2,←(place_of h hr hp hy).2,e]
end
end
section
set_option linter.unusedVariables false
set_option linter.unusedSectionVars false
def sumQ (f:Nat→Nat):Nat→Nat
 | 0=>0
 | k+1=>sumQ f k+f k
theorem sumQ_congr {f g:Nat→Nat}:∀ {n:Nat},(∀ k,k<n→f k=g k)→sumQ f n=sumQ g n
 | 0,_=>rfl
 | n+1,h=>by show sumQ f n+f n=sumQ g n+g n;rw[sumQ_congr fun k hk=>h k (by omega),h n (by omega)]
theorem sumQ_zero {f:Nat→Nat}:∀ {n:Nat},(∀ k,k<n→f k=0)→sumQ f n=0
 | 0,_=>rfl
 | n+1,h=>by show sumQ f n+f n=0;rw[sumQ_zero fun k hk=>h k (by omega),h n (by omega)]
theorem sumQ_add (f g:Nat→Nat):∀ n,sumQ (fun k=>f k+g k) n=sumQ f n+sumQ g n
 | 0=>rfl
 | n+1=>by show sumQ (fun k=>f k+g k) n+(f n+g n)=(sumQ f n+f n)+(sumQ g n+g n);rw[sumQ_add f g n];omega
theorem sumQ_ind {a:Nat}:∀ {n:Nat},sumQ (fun k=>ind (a=k)) n=ind (a<n)
 | 0=>by rw[ind_no (by omega)];rfl
 | n+1=>by
  show sumQ (fun k=>ind (a=k)) n+ind (a=n)=_
  rw[sumQ_ind]
  by_cases h:a<n
  ·rw[ind_yes h,ind_no (by omega),ind_yes (show a<n+1 by omega)]
  ·by_cases e:a=n
   ·rw[ind_no h,ind_yes e,ind_yes (show a<n+1 by omega)]
   ·rw[ind_no h,ind_no e,ind_no (show ¬ a<n+1 by omega)]
theorem sumQ_tally (f:Nat→Nat) (p:Nat→Prop) (k:Nat):∀ n,sumQ (fun i=>tally (fun e=>p e∧f e=i) n) k=tally (fun e=>p e∧f e<k) n
 | 0=>sumQ_zero fun _ _=>rfl
 | n+1=>by
  have e:(fun i=>tally (fun e=>p e∧f e=i) (n+1))=fun i=>tally (fun e=>p e∧f e=i) n+ind (p n∧f n=i):=rfl
  rw[e,sumQ_add,sumQ_tally f p k n,tally_succ]
  congr 1
  by_cases hp:p n
  ·rw[sumQ_congr (g:=fun i=>ind (f n=i)) fun i _=>ind_congr ⟨fun q=>q.2,fun q=>⟨hp,q⟩⟩,sumQ_ind]
   exact ind_congr ⟨fun q=>⟨hp,q⟩,fun q=>q.2⟩
  ·rw[sumQ_zero fun i _=>ind_no fun q=>hp q.1,ind_no fun q=>hp q.1]
theorem ordGo_pre (s:List Nat) (c:Nat):∀ f A out,∃ t,ordGo s c f A out=out ++ t
 | 0,_,out=>⟨[],by simp[ordGo]⟩
 | f+1,A,out=>by
  unfold ordGo
  split
  ·exact⟨[],by simp⟩
  ·obtain⟨t,e⟩:=ordGo_pre s c f (cutA s A (firstI s c A)) (out ++ [nth (namesL s) (A.getD (firstI s c A) 0)])
   exact⟨_,by rw[e,List.append_assoc]⟩
section
variable {s : List Nat} (h : TriS s) {r : Nat} (hr : r < s.length)
include h hr
theorem order_last:nth (orderL s r) ((sizesL s).length-1)=nth (namesL s) (at' (phiL s) (at' (phiL s) r)):=by
 have hS:=ShRun.start h hr
 obtain⟨hf,_⟩:=hS.first h hr (by show 2≤2;omega)
 have f1:firstI s (r ^^^ 1) (begA s r)=1:=by
  have a:=hf.1
  have b:firstI s (r ^^^ 1) (begA s r)<2:=hf.2.1
  omega
 have hn:=begA_names h hr
 simp only[begA,List.cons_append,List.nil_append,List.map_cons,List.map_nil,List.cons.injEq,and_true] at hn
 obtain⟨g,hg⟩:∃ g,s.length=g+1:=⟨s.length-1,by omega⟩
 obtain⟨t,ht⟩:=ordGo_pre s (r ^^^ 1) g (cutA s (begA s r) 1) ([] ++ [nth (namesL s) ((begA s r).getD 1 0)])
 have e:orderL s r=nth (namesL s) r :: nth (namesL s) (at' (phiL s) r) :: (nth (namesL s) (at' (phiL s) (at' (phiL s) r)) :: t).reverse:=by
  unfold orderL
  rw[hg]
  unfold ordGo
  rw[if_neg (by show ¬ 2<2;omega),f1,ht]
  have:(begA s r).getD 1 0=at' (phiL s) r ^^^ 1:=rfl
  rw[this,hn.2.1]
  rfl
 have hl:=order_len h hr
 rw[←hl,e]
 have:nth (namesL s) r :: nth (namesL s) (at' (phiL s) r) :: (nth (namesL s) (at' (phiL s) (at' (phiL s) r)) :: t).reverse=(nth (namesL s) r :: nth (namesL s) (at' (phiL s) r) :: t.reverse) ++ [nth (namesL s) (at' (phiL s) (at' (phiL s) r))]:=by simp
 rw[this]
 unfold nth
 rw[List.getD_eq_getElem?_getD,List.getElem?_append_right (by simp)]
 simp
variable {pl : Int → Nat} (hp : Place (orderL s r) pl)
include hp
theorem plc {i:Nat} (hi:i<(sizesL s).length):pl (nth (orderL s r) i)=i:=hp i (by rw[order_len h hr];exact hi)
theorem plc_first:pl (nth (namesL s) r)=0:=plc h hr hp (i:=0) (by have:=h.big;omega)
theorem plc_second:pl (nth (namesL s) (at' (phiL s) r))=1:=plc h hr hp (i:=1) (by have:=h.big;omega)
theorem plc_last:pl (nth (namesL s) (at' (phiL s) (at' (phiL s) r)))=(sizesL s).length-1:=by
 rw[←order_last h hr]
 exact plc h hr hp (by have:=h.big;omega)
def Ahd (s:List Nat) (pl:Int→Nat) (x:Nat):Prop:=pl (nth (namesL s) (x ^^^ 1))<pl (nth (namesL s) x)
structure RunAt (s:List Nat) (pl:Int→Nat) (v:Int) (q u j J:Nat):Prop where
 ql:q<s.length
 ul:u<s.length
 qv:nth (namesL s) q=v
 uv:nth (namesL s) u=v
 ne:q≠u
 j0:0<j
 qu:itf (at' s) j q=u
 uq:itf (at' s) J u=q
 one:∀ l,l<J→itf (at' s) l u≠q
 no:∀ l,0<l→l<j→¬ Ahd s pl (itf (at' s) l q)
 yes:∀ l,l≤J→Ahd s pl (itf (at' s) l u)
theorem run_at {i:Nat} (h2:2≤i) (hi:i<(sizesL s).length):(∃ q u j J,RunAt s pl (nth (orderL s r) i) q u j J∧(i<(sizesL s).length-1→1<j)) ∧
  (i=(sizesL s).length-1→∀ x,x<s.length→nth (namesL s) x=nth (orderL s r) i→Ahd s pl x):=by
 obtain⟨A,out,hR,hA,he⟩:=order_run h hr
 have hp':=hp
 rw[he] at hp'
 have hV:=(hR.all h hr hA).1
 obtain⟨t,ht,hti,hv⟩:∃ t,t<out.length∧t=(sizesL s).length-1-i∧nth (orderL s r) i=nth out t:=by
  refine⟨(sizesL s).length-1-i,by omega,rfl,?_⟩
  obtain⟨k,rfl⟩:∃ k,i=k+2:=⟨i-2,by omega⟩
  rw[he]
  have e1:nth (nth (namesL s) r :: nth (namesL s) (at' (phiL s) r) :: out.reverse) (k+2)=nth out.reverse k:=by simp[nth]
  rw[e1,nth_at (by simp;omega),nth_at (by omega),List.getElem_reverse]
  congr 1
  omega
 have ah:∀ x,x<s.length→nth (namesL s) x=nth out t→(Ahd s pl x↔¬ goneP s (out.take t) (x ^^^ 1)):=fun x hx e=>pl_ahead h hr hR hA hp' ht hx e
 rw[hv]
 have it:∀ x,x<s.length→∀ m,itf (at' s) m x<s.length∧nth (namesL s) (itf (at' s) m x)=nth (namesL s) x:=fun x hx m=>by
  induction m with
  | zero=>exact⟨hx,rfl⟩
  | succ m ih=>rw[itf_succ];exact⟨h.perm.lt ih.1,by rw[names_turn h.perm ih.1,ih.2]⟩
 constructor
 ·obtain⟨p,q,k1,k2,k3,k4,k5,⟨j,j0,j1,j2⟩,⟨J,J1,J2,J3⟩,k6,k7,k8⟩:=hR.hist t ht
  have hpm:=xor_one_lt h.even k1
  have uv:nth (namesL s) (p ^^^ 1)=nth out t:=by rw[k4,k3]
  have aq:Ahd s pl q:=(ah q k2 k3.symm).2 k7
  have au:Ahd s pl (p ^^^ 1):=(ah _ hpm uv).2 (by rw[xor_one_one];exact k6)
  have no:∀ l,0<l→l<j→¬ Ahd s pl (itf (at' s) l q):=fun l l0 l1 k=>by
   have:=it q k2 l
   exact ((ah _ this.1 (by rw[this.2,k3])).1 k) (j2 l l0 l1)
  have yes:∀ l,l≤J→Ahd s pl (itf (at' s) l (p ^^^ 1)):=fun l l1=>by
   have tt:=it _ hpm l
   rcases Nat.eq_zero_or_pos l with e|l0
   ·subst e;exact au
   ·rcases Nat.lt_or_ge l J with l2|l2
    ·exact (ah _ tt.1 (by rw[tt.2,uv])).2 (J3 l l0 l2)
    ·obtain rfl:l=J:=by omega
     rw[J1];exact aq
  refine⟨q,p ^^^ 1,j,J,⟨k2,hpm,k3.symm,uv,k5,j0,j1,J1,J2,no,yes⟩,fun hlt=>?_⟩
  rcases Nat.lt_or_ge 1 j with g|g
  ·exact g
  ·obtain rfl:j=1:=by omega
   obtain⟨x,x1,x2,x3⟩:=k8 (by omega)
   exfalso
   obtain⟨_,_,m,hm⟩:=(cyc_at h.perm).2 ⟨k2,x1,x2.symm⟩
   have all:∀ m,∃ l,l≤J∧itf (at' s) m q=itf (at' s) l (p ^^^ 1):=fun m=>by
    induction m with
    | zero=>exact⟨J,Nat.le_refl _,J1.symm⟩
    | succ m ih=>
     obtain⟨l,l1,l2⟩:=ih
     rw[itf_succ,l2]
     rcases Nat.lt_or_ge l J with g2|g2
     ·exact⟨l+1,g2,(itf_succ ..).symm⟩
     ·obtain rfl:l=J:=by omega
      rw[J1]
      exact⟨0,Nat.zero_le _,j1⟩
   obtain⟨l,l1,l2⟩:=all m
   rw[hm] at l2
   exact (ah x x1 (by rw[x2,k3])).1 (by rw[l2];exact yes l l1) x3
 ·intro e x hx ex
  have t0:t=0:=by omega
  exact (ah x hx ex).2 (by rw[t0];rintro⟨_,k⟩;simp at k)
end
section
variable {s : List Nat} (h : TriS s) {pl : Int → Nat} {v : Int} {q u j J : Nat} (hk : RunAt s pl v q u j J)
include h hk
theorem RunAt.cases {x:Nat} (hx:x<s.length) (e:nth (namesL s) x=v):(∃ l,0<l∧l<j∧x=itf (at' s) l q)∨∃ l,l≤J∧x=itf (at' s) l u:=by
 obtain⟨_,_,m,hm⟩:=(cyc_at h.perm).2 ⟨hk.ql,hx,by rw[hk.qv,e]⟩
 have all:∀ m,(∃ l,0<l∧l<j∧itf (at' s) m q=itf (at' s) l q)∨∃ l,l≤J∧itf (at' s) m q=itf (at' s) l u:=fun m=>by
  induction m with
  | zero=>exact .inr ⟨J,Nat.le_refl _,hk.uq.symm⟩
  | succ m ih=>
   rcases ih with ⟨l,l0,l1,l2⟩|⟨l,l1,l2⟩
   ·rw[itf_succ,l2]
    rcases Nat.lt_or_ge (l+1) j with g|g
    ·exact .inl ⟨l+1,by omega,g,(itf_succ ..).symm⟩
    ·refine .inr ⟨0,Nat.zero_le _,?_⟩
     have:l+1=j:=by omega
     rw[show at' s (itf (at' s) l q)=itf (at' s) (l+1) q from (itf_succ ..).symm,this,hk.qu]
     rfl
   ·rw[itf_succ,l2]
    rcases Nat.lt_or_ge l J with g|g
    ·exact .inr ⟨l+1,g,(itf_succ ..).symm⟩
    ·obtain rfl:l=J:=by omega
     rw[hk.uq]
     have j0:=hk.j0
     rcases Nat.lt_or_ge 1 j with g2|g2
     ·exact .inl ⟨1,by omega,g2,rfl⟩
     ·have:j=1:=by omega
      have qu:=hk.qu
      rw[this] at qu
      exact .inr ⟨0,Nat.zero_le _,qu⟩
 rcases all m with ⟨l,l0,l1,l2⟩|⟨l,l1,l2⟩
 ·exact .inl ⟨l,l0,l1,by rw[←hm,l2]⟩
 ·exact .inr ⟨l,l1,by rw[←hm,l2]⟩
theorem RunAt.last {x:Nat} (hx:x<s.length) (e:nth (namesL s) x=v) (h1:Ahd s pl x) (h2:¬ Ahd s pl (at' s x)):x=q:=by
 rcases hk.cases h hx e with ⟨l,l0,l1,l2⟩|⟨l,l1,l2⟩
 ·exact absurd (by rw[←l2];exact h1) (hk.no l l0 l1)
 ·rcases Nat.lt_or_ge l J with g|g
  ·have:=hk.yes (l+1) g
   rw[itf_succ,←l2] at this
   exact absurd this h2
  ·obtain rfl:l=J:=by omega
   rw[l2,hk.uq]
theorem RunAt.begin {x:Nat} (hx:x<s.length) (e:nth (namesL s) x=v) (h1:¬ Ahd s pl x) (h2:Ahd s pl (at' s x)):at' s x=u:=by
 rcases hk.cases h hx e with ⟨l,l0,l1,l2⟩|⟨l,l1,l2⟩
 ·rcases Nat.lt_or_ge (l+1) j with g|g
  ·have:=hk.no (l+1) (by omega) g
   rw[itf_succ,←l2] at this
   exact absurd h2 this
  ·have:l+1=j:=by omega
   rw[l2,show at' s (itf (at' s) l q)=itf (at' s) (l+1) q from (itf_succ ..).symm,this,hk.qu]
 ·exact absurd (by rw[l2];exact hk.yes l l1) h1
end
end
section
set_option linter.unusedVariables false
set_option linter.unusedSectionVars false
section
variable {s : List Nat} (h : TriS s) {r : Nat} (hr : r < s.length) {pl : Int → Nat} (hp : Place (orderL s r) pl)
include h hr hp
end
end
section
set_option linter.unusedVariables false
set_option linter.unusedSectionVars false
section
variable {s : List Nat} (h : TriS s) {r : Nat} (hr : r < s.length) {pl : Int → Nat} (hp : Place (orderL s r) pl)
def plD (s:List Nat) (pl:Int→Nat) (x:Nat):Nat:=pl (nth (namesL s) x)
include h hr
include hp
theorem pl_ltV {x:Nat} (hx:x<s.length):plD s pl x<(sizesL s).length:=(place_of h hr hp hx).1
end
end
section
set_option linter.unusedVariables false
set_option linter.unusedSectionVars false
def PlTo (P L:List Int) (V i:Nat):Prop:=P.length=V∧∀ j,j<i→nth P (nth L j).toNat=(j:Int)
def plP (P:List Int) (v:Int):Nat:=(nth P v.toNat).toNat
theorem PlTo.start (L:List Int) (V:Nat):PlTo (List.replicate V 0) L V 0:=⟨by simp,fun j hj=>absurd hj (Nat.not_lt_zero _)⟩
theorem PlTo.step {P L:List Int} {V i:Nat} (h:PlTo P L V i) (hn:L.Nodup) (hb:∀ v,v∈L→0≤v∧v<(V:Int)) (hi:i<L.length):PlTo (P.set (nth L i).toNat (i:Int)) L V (i+1):=by
 refine⟨by simpa using h.1,fun j hj=>?_⟩
 have k1:=hb _ (nth_mem hi)
 have k2:=hb _ (nth_mem (show j<L.length by omega))
 rw[nth_set (by rw[h.1];omega)]
 by_cases e:j=i
 ·subst e;rw[if_pos rfl]
 ·rw[if_neg,h.2 j (by omega)]
  intro q
  have:nth L i=nth L j:=by omega
  rw[nth_at hi,nth_at (show j<L.length by omega)] at this
  exact e (nodup_idx hn (by omega) hi this.symm)
theorem PlTo.place {P L:List Int} {V:Nat} (h:PlTo P L V L.length):Place L (plP P):=fun i hi=>by
 unfold plP
 rw[h.2 i hi]
 exact Int.toNat_natCast i
section
variable {s : List Nat} (h : TriS s) {r : Nat} (hr : r < s.length) {P : List Int} (hP : PlTo P (orderL s r) (sizesL s).length (sizesL s).length)
include h hr hP
theorem PlTo.pl:Place (orderL s r) (plP P):=by
 have:=hP
 rw[←order_len h hr] at this
 exact PlTo.place (V:=(orderL s r).length) this
theorem PlTo.at {x:Nat} (hx:x<s.length):nth P (vtx s x)=(plD s (plP P) x:Int)∧plD s (plP P) x<(sizesL s).length∧vtx s x<(sizesL s).length:=by
 have k1:=place_of h hr (hP.pl h hr) hx
 have k2:(plP P (nth (namesL s) x):Int)=nth P (vtx s x):=by
  have:=hP.2 _ k1.1
  rw[k1.2,vtx_eq h.perm hx] at this
  rw[vtx_eq h.perm hx]
  exact this.symm
 exact⟨k2.symm,k1.1,vtx_lt h.perm hx⟩
end
end
section
set_option linter.unusedVariables false
set_option linter.unusedSectionVars false
open Classical in
noncomputable def plC (L:List Int) (v:Int):Nat:=if k:∃ i,i<L.length∧nth L i=v then Classical.choose k else 0
theorem plC_place {L:List Int} (hn:L.Nodup):Place L (plC L):=fun i hi=>by
 have k:∃ j,j<L.length∧nth L j=nth L i:=⟨i,hi,rfl⟩
 have e:plC L (nth L i)=Classical.choose k:=dif_pos k
 obtain⟨k1,k2⟩:=Classical.choose_spec k
 rw[←e] at k1 k2
 generalize plC L (nth L i)=j at k1 k2 ⊢
 rw[nth_at k1,nth_at hi] at k2
 exact nodup_idx hn k1 hi k2
section
variable {s : List Nat} (h : TriS s) {r : Nat} (hr : r < s.length) {pl : Int → Nat} (hp : Place (orderL s r) pl)
include h hr hp
end
section
variable {s : List Nat} (h : TriS s) {r : Nat} (hr : r < s.length)
include h hr
end
end
section
set_option linter.unusedVariables false
set_option linter.unusedSectionVars false
def farP (s:List Nat) (pl:Int→Nat) (x:Nat):Nat:=plD s pl (x ^^^ 1)
def ahZ (s:List Nat) (pl:Int→Nat) (x:Nat):Bool:=decide (farP s pl x<plD s pl x)
theorem ahZ_iff {s:List Nat} {pl:Int→Nat} {x:Nat}:ahZ s pl x=true↔Ahd s pl x:=decide_eq_true_iff
theorem ahZ_yes {s:List Nat} {pl:Int→Nat} {x:Nat} (k:farP s pl x<plD s pl x):ahZ s pl x=true:=decide_eq_true k
theorem ahZ_no {s:List Nat} {pl:Int→Nat} {x:Nat} (k:plD s pl x≤farP s pl x):ahZ s pl x=false:=decide_eq_false (by omega)
def cornZ (s:List Nat) (r x:Nat):Bool:=nth (namesL s) x == nth (namesL s) r || nth (namesL s) x == nth (namesL s) (at' (phiL s) r) || nth (namesL s) x == nth (namesL s) (at' (phiL s) (at' (phiL s) r))
def outZ (s:List Nat) (r x:Nat):Bool:=cornZ s r x && cornZ s r (x ^^^ 1)
def colZ (s:List Nat) (r:Nat) (pl:Int→Nat) (x:Nat):Int:=
 if outZ s r x then -1 else if ahZ s pl x then (if ahZ s pl (at' (invL s) x) then (if ahZ s pl (at' s x) then -1 else 2) else 1) else
 if ahZ s pl (at' (invL s) (x ^^^ 1)) && ahZ s pl (at' s (x ^^^ 1)) then 0 else -1
theorem outZ_mate {s:List Nat} {r x:Nat}:outZ s r (x ^^^ 1)=outZ s r x:=by
 unfold outZ
 rw[xor_one_one,Bool.and_comm]
theorem unimodal {F:Nat→Nat} {P j:Nat} (hj:1<j) (h0:F 0<P) (h1:F j<P) (hb:∀ l,0<l→l<j→P<F l) (hd:∀ l,l<j→F l≠F (l+1)) (hm:∀ l,0<l→l<j→F l<F (l-1)→F l<F (l+1)→False):
  ∃ m,0<m∧m<j∧(∀ l,l<m→F l<F (l+1))∧∀ l,m≤l→l<j→F (l+1)<F l:=by
 have e:=hb (j-1) (by omega) (by omega)
 obtain⟨m,m1,m2,m3⟩:=least_nat (p:=fun l=>F (l+1)<F l) (j-1) (by show F (j-1+1)<F (j-1);rw[show j-1+1=j by omega];omega)
 have m0:0<m:=by
  rcases Nat.eq_zero_or_pos m with q|q
  ·subst q
   have:=hb 1 (by omega) hj
   have m2:F (0+1)<F 0:=m2
   rw[show 0+1=1 by omega] at m2
   omega
  ·exact q
 refine⟨m,m0,by omega,fun l hl=>?_,fun l hl=>?_⟩
 ·have:=m3 l hl
  have:=hd l (by omega)
  omega
 ·induction l with
  | zero=>omega
  | succ l ih=>
   intro hlj
   rcases Nat.lt_or_ge l m with q|q
   ·have:l+1=m:=by omega
    rw[this]
    exact m2
   ·have k:=ih q (by omega)
    have n:=hd (l+1) hlj
    have:=hm (l+1) (by omega) hlj (by rw[show l+1-1=l by omega];exact k)
    rcases Nat.lt_or_ge (F (l+1)) (F (l+1+1)) with w|w
    ·exact absurd w this
    ·omega
section
variable {s : List Nat} (h : TriS s) {r : Nat} (hr : r < s.length)
include h
theorem TriS.inv_lt {x:Nat} (hx:x<s.length):at' (invL s) x<s.length∧at' s (at' (invL s) x)=x∧nth (namesL s) (at' (invL s) x)=nth (namesL s) x:=by
 have k:=at_invL h.perm hx
 refine⟨k.2,k.1,?_⟩
 have:=names_turn h.perm k.2
 rw[k.1] at this
 exact this.symm
theorem far_next (pl:Int→Nat) {x:Nat} (hx:x<s.length):farP s pl (at' (invL s) (x ^^^ 1))=farP s pl (at' s x):=by
 have hm:=xor_one_lt h.even (h.phl (h.perm.lt hx))
 have e:=invL_at h.perm hm
 rw[(h.tri hx).1] at e
 unfold farP plD
 rw[e,xor_one_one,names_phi h.perm h.even (h.perm.lt hx)]
theorem far_prev (pl:Int→Nat) {x:Nat} (hx:x<s.length):farP s pl (at' s (x ^^^ 1))=farP s pl (at' (invL s) x):=by
 obtain⟨k1,k2,_⟩:=h.inv_lt hx
 have t:=(h.tri k1).1
 rw[k2] at t
 have e1:at' (phiL s) (at' (phiL s) x)=at' (invL s) x ^^^ 1:=by rw[h.phi_at (h.phl hx),t]
 unfold farP plD
 rw[←e1,names_phi h.perm h.even (h.phl hx),h.phi_at hx]
theorem turn_ne {x:Nat} (hx:x<s.length):at' s x≠x:=fun e=>by
 have hm:=xor_one_lt h.even hx
 have:=h.nomate hm
 rw[h.phi_at hm,xor_one_one] at this
 exact this e
include hr
variable {pl : Int → Nat} (hp : Place (orderL s r) pl)
include hp
theorem far_ne {x:Nat} (hx:x<s.length):farP s pl (at' s x)≠farP s pl x:=fun e=>by
 have hy:=h.perm.lt hx
 have k:=place_inj h hr hp (xor_one_lt h.even hy) (xor_one_lt h.even hx) e
 exact turn_ne h hx (h.dbl _ _ hy hx (names_turn h.perm hx) k)
theorem far_own {x:Nat} (hx:x<s.length):farP s pl x≠plD s pl x:=fun e=>h.loop x hx (place_inj h hr hp (xor_one_lt h.even hx) hx e).symm
theorem ahZ_mate {x:Nat} (hx:x<s.length):ahZ s pl (x ^^^ 1)=!ahZ s pl x:=by
 have:=far_own h hr hp hx
 unfold ahZ
 unfold farP at *
 rw[xor_one_one]
 by_cases k:plD s pl (x ^^^ 1)<plD s pl x
 ·rw[decide_eq_false (by omega),decide_eq_true k];rfl
 ·rw[decide_eq_true (by omega),decide_eq_false k];rfl
theorem corn_iff {x:Nat} (hx:x<s.length):cornZ s r x=true↔plD s pl x<2∨plD s pl x=(sizesL s).length-1:=by
 have b:=h.big
 have p0:=plc_first h hr hp
 have p1:=plc_second h hr hp
 have p2:=plc_last h hr hp
 have l1:=h.phl hr
 have l2:=h.phl l1
 unfold cornZ plD
 simp only[Bool.or_eq_true,beq_iff_eq]
 constructor
 ·rintro ((e|e)|e) <;> rw[e] <;> omega
 ·intro k
  have inj:∀ y,y<s.length→pl (nth (namesL s) x)=pl (nth (namesL s) y)→nth (namesL s) x=nth (namesL s) y:=fun y hy e=>place_inj h hr hp hx hy e
  rcases (by omega:pl (nth (namesL s) x)=0∨pl (nth (namesL s) x)=1∨pl (nth (namesL s) x)=(sizesL s).length-1) with q|q|q
  ·exact .inl (.inl (inj r hr (by omega)))
  ·exact .inl (.inr (inj _ l1 (by omega)))
  ·exact .inr (inj _ l2 (by omega))
theorem no_low {x:Nat} (hx:x<s.length) (h2:2≤farP s pl x) (ha:plD s pl x<farP s pl x) (k1:farP s pl x<farP s pl (at' (invL s) x)) (k2:farP s pl x<farP s pl (at' s x)):False:=by
 have hm:=xor_one_lt h.even hx
 obtain⟨i,hi⟩:∃ i,farP s pl x=i:=⟨_,rfl⟩
 have hpo:=place_of h hr hp hm
 have e0:pl (nth (namesL s) (x ^^^ 1))=i:=hi
 rw[e0] at hpo
 obtain⟨i1,i2,i3⟩:=h.inv_lt hm
 have a0:Ahd s pl (x ^^^ 1):=by
  show pl (nth (namesL s) (x ^^^ 1 ^^^ 1))<pl (nth (namesL s) (x ^^^ 1))
  rw[xor_one_one]
  exact ha
 have n1:¬ Ahd s pl (at' (invL s) (x ^^^ 1)):=fun a=>by
  have a:farP s pl (at' (invL s) (x ^^^ 1))<pl (nth (namesL s) (at' (invL s) (x ^^^ 1))):=a
  rw[far_next h pl hx,i3,e0] at a
  omega
 have n2:¬ Ahd s pl (at' s (x ^^^ 1)):=fun a=>by
  have a:farP s pl (at' s (x ^^^ 1))<pl (nth (namesL s) (at' s (x ^^^ 1))):=a
  rw[far_prev h pl hx,names_turn h.perm hm,e0] at a
  omega
 obtain⟨⟨q,u,j,J,hk,hj⟩,hl⟩:=run_at h hr hp (i:=i) (by omega) hpo.1
 have b1:=hk.begin h i1 (by rw[i3,hpo.2]) n1 (by rw[i2];exact a0)
 rw[i2] at b1
 have b2:=hk.last h hm hpo.2.symm a0 n2
 exact hk.ne (by rw[←b1,←b2])
end
section
variable {s : List Nat} (h : TriS s) {r : Nat} (hr : r < s.length) {pl : Int → Nat} (hp : Place (orderL s r) pl)
include h hr hp
theorem col_ahead {x:Nat} (hx:x<s.length) (ho:outZ s r x=false) (ha:ahZ s pl x=true):
  colZ s r pl x=(if ahZ s pl (at' (invL s) x) then (if ahZ s pl (at' s x) then -1 else 2) else 1)∧colZ s r pl (x ^^^ 1)=if ahZ s pl (at' (invL s) x) && ahZ s pl (at' s x) then 0 else -1:=by
 constructor
 ·unfold colZ
  rw[ho,ha]
  rfl
 ·unfold colZ
  rw[outZ_mate,ho,ahZ_mate h hr hp hx,ha,xor_one_one]
  rfl
theorem col_behind {x:Nat} (hx:x<s.length) (ho:outZ s r x=false) (ha:plD s pl x<farP s pl x):
  colZ s r pl x=(if farP s pl (at' s x)<farP s pl x∧farP s pl (at' (invL s) x)<farP s pl x then 0 else -1) ∧
  colZ s r pl (x ^^^ 1)=if farP s pl (at' s x)<farP s pl x then (if farP s pl (at' (invL s) x)<farP s pl x then -1 else 2) else 1:=by
 have hm:=xor_one_lt h.even hx
 have hz:ahZ s pl x=false:=ahZ_no (by omega)
 have hz2:ahZ s pl (x ^^^ 1)=true:=by rw[ahZ_mate h hr hp hx,hz];rfl
 have e1:ahZ s pl (at' (invL s) (x ^^^ 1))=decide (farP s pl (at' s x)<farP s pl x):=by
  unfold ahZ
  rw[far_next h pl hx]
  have:plD s pl (at' (invL s) (x ^^^ 1))=farP s pl x:=by unfold plD farP plD;rw[(h.inv_lt hm).2.2]
  rw[this]
 have e2:ahZ s pl (at' s (x ^^^ 1))=decide (farP s pl (at' (invL s) x)<farP s pl x):=by
  unfold ahZ
  rw[far_prev h pl hx]
  have:plD s pl (at' s (x ^^^ 1))=farP s pl x:=by unfold plD farP plD;rw[names_turn h.perm hm]
  rw[this]
 have k:=(col_ahead h hr hp hm (by rw[outZ_mate,ho]) hz2)
 rw[xor_one_one,e1,e2] at k
 rw[k.1,k.2]
 simp only[Bool.and_eq_true,decide_eq_true_eq]
 exact⟨trivial,trivial⟩
structure Six (s:List Nat) (r:Nat) (pl:Int→Nat) (v:Int) (q u j J m:Nat):Prop where
 run:RunAt s pl v q u j J
 m0:0<m
 mj:m<j
 o1:colZ s r pl u=1∧colZ s r pl (u ^^^ 1)=-1
 i0:∀ l,0<l→l<J→colZ s r pl (itf (at' s) l u)=-1∧colZ s r pl (itf (at' s) l u ^^^ 1)=0
 o2:colZ s r pl q=2∧colZ s r pl (q ^^^ 1)=-1
 i1:∀ l,0<l→l<m→colZ s r pl (itf (at' s) l q)=-1∧colZ s r pl (itf (at' s) l q ^^^ 1)=1
 o0:colZ s r pl (itf (at' s) m q)=0∧colZ s r pl (itf (at' s) m q ^^^ 1)=-1
 i2:∀ l,m<l→l<j→colZ s r pl (itf (at' s) l q)=-1∧colZ s r pl (itf (at' s) l q ^^^ 1)=2
theorem it_in {x:Nat} (hx:x<s.length) (m:Nat):itf (at' s) m x<s.length∧nth (namesL s) (itf (at' s) m x)=nth (namesL s) x:=by
 induction m with
 | zero=>exact⟨hx,rfl⟩
 | succ m ih=>rw[itf_succ];exact⟨h.perm.lt ih.1,by rw[names_turn h.perm ih.1,ih.2]⟩
theorem inv_it {x:Nat} (hx:x<s.length) (m:Nat):at' (invL s) (itf (at' s) (m+1) x)=itf (at' s) m x:=by
 rw[itf_succ]
 exact invL_at h.perm (it_in h hr hp hx m).1
theorem six_at {x:Nat} (hx:x<s.length) (hc:cornZ s r x=false):∃ q u j J m,Six s r pl (nth (namesL s) x) q u j J m:=by
 have hpo:=place_of h hr hp hx
 obtain⟨i,hi⟩:∃ i,plD s pl x=i:=⟨_,rfl⟩
 have e0:pl (nth (namesL s) x)=i:=hi
 rw[e0] at hpo
 have hci:¬ (i<2∨i=(sizesL s).length-1):=fun k=>by
  have:=(corn_iff h hr hp hx).2 (by rw[hi];exact k)
  rw[this] at hc
  cases hc
 obtain⟨⟨q,u,j,J,hk,hj⟩,_⟩:=run_at h hr hp (i:=i) (by omega) hpo.1
 have hj:=hj (by omega)
 rw[hpo.2] at hk
 have cornv:∀ y,nth (namesL s) y=nth (namesL s) x→cornZ s r y=false:=fun y e=>by unfold cornZ at hc ⊢;rw[e];exact hc
 have outv:∀ y,nth (namesL s) y=nth (namesL s) x→outZ s r y=false:=fun y e=>by unfold outZ;rw[cornv y e];rfl
 have pv:∀ y,nth (namesL s) y=nth (namesL s) x→plD s pl y=i:=fun y e=>by unfold plD;rw[e];exact e0
 have iu:=it_in h hr hp hk.ul
 have iq:=it_in h hr hp hk.ql
 have yes:∀ l,l≤J→ahZ s pl (itf (at' s) l u)=true:=fun l hl=>ahZ_iff.2 (hk.yes l hl)
 have no:∀ l,0<l→l<j→ahZ s pl (itf (at' s) l q)=false:=fun l l0 l1=>by
  cases e:ahZ s pl (itf (at' s) l q)
  ·rfl
  ·exact absurd (ahZ_iff.1 e) (hk.no l l0 l1)
 have J0:0<J:=by
  rcases Nat.eq_zero_or_pos J with e|e
  ·have:=hk.uq
   rw[e] at this
   exact absurd this.symm hk.ne
  ·exact e
 have n1:ahZ s pl (at' s q)=false:=no 1 (by omega) hj
 have n2:ahZ s pl (at' (invL s) u)=false:=by
  have:=no (j-1) (by omega) (by omega)
  have e:at' (invL s) (itf (at' s) (j-1+1) q)=itf (at' s) (j-1) q:=inv_it h hr hp hk.ql _
  rw[show j-1+1=j by omega,hk.qu] at e
  rw[e]
  exact this
 have a1:ahZ s pl (at' s u)=true:=yes 1 (by omega)
 have a2:ahZ s pl (at' (invL s) q)=true:=by
  have e:at' (invL s) (itf (at' s) (J-1+1) u)=itf (at' s) (J-1) u:=inv_it h hr hp hk.ul _
  rw[show J-1+1=J by omega,hk.uq] at e
  rw[e]
  exact yes (J-1) (by omega)
 have au:ahZ s pl u=true:=yes 0 (Nat.zero_le _)
 have aq:ahZ s pl q=true:=by have:=yes J (Nat.le_refl _);rwa [hk.uq] at this
 have far_of_no:∀ l,0<l→l<j→i<farP s pl (itf (at' s) l q):=fun l l0 l1=>by
  have k1:=no l l0 l1
  have k2:=far_own h hr hp (iq l).1
  have k3:=pv _ ((iq l).2.trans hk.qv)
  unfold ahZ at k1
  have:=of_decide_eq_false k1
  omega
 have far_of_yes:∀ y,nth (namesL s) y=nth (namesL s) x→ahZ s pl y=true→farP s pl y<i:=fun y e a=>by
  have:=of_decide_eq_true a
  rw[pv y e] at this
  exact this
 obtain⟨m,m0,mj,m1,m2⟩:=unimodal (F:=fun l=>farP s pl (itf (at' s) l q)) (P:=i) hj (far_of_yes q hk.qv aq) (by show farP s pl (itf (at' s) j q)<i;rw[hk.qu];exact far_of_yes u hk.uv au) far_of_no
  (fun l hl=>by show farP s pl (itf (at' s) l q)≠farP s pl (itf (at' s) (l+1) q);rw[itf_succ];exact fun e=>far_ne h hr hp (iq l).1 e.symm)
  (fun l l0 l1 k1 k2=>by
   obtain⟨t,rfl⟩:∃ t,l=t+1:=⟨l-1,by omega⟩
   have k1:farP s pl (itf (at' s) (t+1) q)<farP s pl (itf (at' s) t q):=k1
   have k2:farP s pl (itf (at' s) (t+1) q)<farP s pl (itf (at' s) (t+1+1) q):=k2
   have fb:=far_of_no (t+1) l0 l1
   refine no_low h hr hp (iq (t+1)).1 (by omega) (by rw[pv _ ((iq (t+1)).2.trans hk.qv)];exact fb) ?_ ?_
   ·rw[inv_it h hr hp hk.ql];exact k1
   ·rw[←itf_succ (at' s)];exact k2)
 have m1:∀ l,l<m→farP s pl (itf (at' s) l q)<farP s pl (itf (at' s) (l+1) q):=m1
 have m2:∀ l,m≤l→l<j→farP s pl (itf (at' s) (l+1) q)<farP s pl (itf (at' s) l q):=m2
 have beh:∀ l,0<l→l<j→colZ s r pl (itf (at' s) l q)=(if farP s pl (itf (at' s) (l+1) q)<farP s pl (itf (at' s) l q)∧farP s pl (itf (at' s) (l-1) q)<farP s pl (itf (at' s) l q) then 0 else -1) ∧
   colZ s r pl (itf (at' s) l q ^^^ 1)=if farP s pl (itf (at' s) (l+1) q)<farP s pl (itf (at' s) l q) then (if farP s pl (itf (at' s) (l-1) q)<farP s pl (itf (at' s) l q) then -1 else 2) else 1:=fun l l0 l1=>by
  have k:=col_behind h hr hp (iq l).1 (outv _ ((iq l).2.trans hk.qv)) (by rw[pv _ ((iq l).2.trans hk.qv)];exact far_of_no l l0 l1)
  rw[←itf_succ (at' s)] at k
  obtain⟨t,rfl⟩:∃ t,l=t+1:=⟨l-1,by omega⟩
  rw[inv_it h hr hp hk.ql t] at k
  exact k
 refine⟨q,u,j,J,m,hk,m0,mj,?_,fun l l0 l1=>?_,?_,fun l l0 l1=>?_,?_,fun l l0 l1=>?_⟩
 ·have k:=col_ahead h hr hp hk.ul (outv _ hk.uv) au
  rw[n2] at k
  exact k
 ·have k:=col_ahead h hr hp (iu l).1 (outv _ ((iu l).2.trans hk.uv)) (yes l (by omega))
  rw[←itf_succ (at' s)] at k
  obtain⟨t,rfl⟩:∃ t,l=t+1:=⟨l-1,by omega⟩
  rw[inv_it h hr hp hk.ul t,yes t (by omega),yes (t+1+1) (by omega)] at k
  exact k
 ·have k:=col_ahead h hr hp hk.ql (outv _ hk.qv) aq
  rw[a2,n1] at k
  exact k
 ·have k:=beh l l0 (by omega)
  have k1:=m1 l l1
  rw[if_neg (fun t=>by omega),if_neg (by omega)] at k
  exact k
 ·have k:=beh m m0 mj
  have k1:=m2 m (Nat.le_refl _) mj
  have k2:=m1 (m-1) (by omega)
  rw[show m-1+1=m by omega] at k2
  rw[if_pos ⟨k1,k2⟩,if_pos k1,if_pos k2] at k
  exact k
 ·have k:=beh l (by omega) l1
  have k1:=m2 l (by omega) l1
  have k2:=m2 (l-1) (by omega) (by omega)
  rw[show l-1+1=l by omega] at k2
  rw[if_neg (fun t=>by omega),if_pos k1,if_neg (by omega)] at k
  exact k
end
end
section
set_option linter.unusedVariables false
set_option linter.unusedSectionVars false
theorem all_rise {F:Nat→Nat} {n:Nat} (hd:∀ l,l<n→F l≠F (l+1)) (hm:∀ l,0<l→l<n→F l<F (l-1)→F l<F (l+1)→False) (hx:∀ l,l≤n→F l≤F n):∀ l,l<n→F l<F (l+1):=fun l hl=>by
 have d:=hd l hl
 rcases Nat.lt_or_ge (F l) (F (l+1)) with q|q
 ·exact q
 ·exfalso
  have all:∀ k,l+k<n→F (l+k+1)<F (l+k):=fun k=>by
   induction k with
   | zero=>intro _;show F (l+1)<F l;omega
   | succ k ih=>
    intro hk
    have i:=ih (by omega)
    have d:=hd (l+(k+1)) hk
    have:=hm (l+(k+1)) (by omega) hk (by rw[show l+(k+1)-1=l+k by omega];exact i)
    rcases Nat.lt_or_ge (F (l+(k+1))) (F (l+(k+1)+1)) with w|w
    ·exact absurd w this
    ·omega
  have i:=all (n-1-l) (by omega)
  rw[show l+(n-1-l)+1=n by omega] at i
  have:=hx (l+(n-1-l)) (by omega)
  omega
theorem all_fall {F:Nat→Nat} {n:Nat} (hd:∀ l,l<n→F l≠F (l+1)) (hm:∀ l,0<l→l<n→F l<F (l-1)→F l<F (l+1)→False) (hx:∀ l,l≤n→F l≤F 0):∀ l,l<n→F (l+1)<F l
 | 0,hl=>by
  have d:=hd 0 hl
  have:F (0+1)≤F 0:=hx (0+1) (by omega)
  omega
 | l+1,hl=>by
  have i:=all_fall hd hm hx l (by omega)
  have d:=hd (l+1) hl
  have:=hm (l+1) (by omega) hl (by rw[show l+1-1=l by omega];exact i)
  rcases Nat.lt_or_ge (F (l+1)) (F (l+1+1)) with w|w
  ·exact absurd w this
  ·omega
section
variable {s : List Nat} (h : TriS s)
include h
theorem orb_full {d:Nat} (hd:d<s.length):∃ m,0<m∧itf (at' s) m d=d∧(∀ l l',l<m→l' < m→itf (at' s) l d=itf (at' s) l' d→l=l')∧(∀ x,x<s.length→nth (namesL s) x=nth (namesL s) d→∃ l,l<m∧x=itf (at' s) l d)∧orbitL s d=(List.range m).map fun l=>itf (at' s) l d:=by
 obtain⟨m,m0,m1,m2⟩:=orbitL_map h.perm hd
 have e:orbitL s d=(List.range m).map fun l=>itf (at' s) l d:=by rw[m2];exact List.map_congr_left fun l _=>it_itf s l d
 refine⟨m,m0,by rw[←it_itf];exact m1,fun l l' h1 h2 q=>?_,fun x hx q=>?_,e⟩
 ·have hn:=orbitL_nodup h.perm hd
  rw[e] at hn
  have hp:=List.pairwise_iff_getElem.1 hn
  rcases Nat.lt_trichotomy l l' with w|w|w
  ·exact absurd (by rw[List.getElem_map,List.getElem_map,List.getElem_range,List.getElem_range];exact q) (hp l l' (by simpa using h1) (by simpa using h2) w)
  ·exact w
  ·exact absurd (by rw[List.getElem_map,List.getElem_map,List.getElem_range,List.getElem_range];exact q.symm) (hp l' l (by simpa using h2) (by simpa using h1) w)
 ·have:=(names_orbit h.perm hd).2 ⟨hx,q⟩
  rw[e] at this
  obtain⟨l,hl,e2⟩:=List.mem_map.1 this
  exact⟨l,List.mem_range.1 hl,e2.symm⟩
variable {r : Nat} (hr : r < s.length) {pl : Int → Nat} (hp : Place (orderL s r) pl)
include hr hp
theorem far_lt {x:Nat} (hx:x<s.length):farP s pl x<(sizesL s).length:=pl_ltV h hr hp (xor_one_lt h.even hx)
theorem corner_one {x:Nat} (hx:x<s.length) (e:nth (namesL s) x=nth (namesL s) r) (ho:outZ s r x=false):colZ s r pl x=-1∧colZ s r pl (x ^^^ 1)=1:=by
 obtain⟨m,m0,m1,mi,mc,_⟩:=orb_full h hr
 have b:=h.big
 have p0:=plc_first h hr hp
 have p1:=plc_second h hr hp
 have p2:=plc_last h hr hp
 have l1:=h.phl hr
 have l2:=h.phl l1
 have io:=it_in h hr hp hr
 have own:∀ l,plD s pl (itf (at' s) l r)=0:=fun l=>by unfold plD;rw[(io l).2];exact p0
 have elast:itf (at' s) (m-1) r=at' (phiL s) (at' (phiL s) r) ^^^ 1:=by
  have e1:at' s (itf (at' s) (m-1) r)=r:=by rw[←itf_succ (at' s),show m-1+1=m by omega];exact m1
  have e2:at' s (at' (phiL s) (at' (phiL s) r) ^^^ 1)=r:=by rw[←h.phi_at l2];exact (h.three r hr).1
  exact h.perm.pm.inj (io _).1 (xor_one_lt h.even l2) (by rw[e1,e2])
 have flast:farP s pl (itf (at' s) (m-1) r)=(sizesL s).length-1:=by
  rw[elast]
  unfold farP plD
  rw[xor_one_one,p2]
 have f0:farP s pl r=1:=by
  unfold farP plD
  rw[←names_phi h.perm h.even hr,p1]
 have big:∀ l,0<l→l<m→2≤farP s pl (itf (at' s) l r):=fun l l0 l1=>by
  have k1:=far_own h hr hp (io l).1
  rw[own l] at k1
  rcases Nat.lt_or_ge 1 (farP s pl (itf (at' s) l r)) with q|q
  ·exact q
  ·exfalso
   have k2:farP s pl (itf (at' s) l r)=farP s pl r:=by omega
   have k3:=place_inj h hr hp (xor_one_lt h.even (io l).1) (xor_one_lt h.even hr) k2
   have:=mi l 0 l1 m0 (h.dbl _ _ (io l).1 hr (io l).2 k3)
   omega
 have rise:=all_rise (F:=fun l=>farP s pl (itf (at' s) l r)) (n:=m-1) (fun l _=>by
   show farP s pl (itf (at' s) l r)≠farP s pl (itf (at' s) (l+1) r)
   rw[itf_succ]
   exact fun e=>far_ne h hr hp (io l).1 e.symm) (fun l l0 l1 k1 k2=>by
   obtain⟨t,rfl⟩:∃ t,l=t+1:=⟨l-1,by omega⟩
   have fb:=big (t+1) l0 (by omega)
   refine no_low h hr hp (io (t+1)).1 fb (by rw[own];omega) ?_ ?_
   ·rw[inv_it h hr hp hr];exact k1
   ·rw[←itf_succ (at' s)];exact k2) (fun l hl=>by
   show farP s pl (itf (at' s) l r)≤farP s pl (itf (at' s) (m-1) r)
   have:=far_lt h hr hp (io l).1
   omega)
 have rise:∀ l,l<m-1→farP s pl (itf (at' s) l r)<farP s pl (itf (at' s) (l+1) r):=rise
 obtain⟨l,lm,rfl⟩:=mc x hx e
 have corner_no:∀ y,y<s.length→outZ s r y=false→plD s pl y=0→plD s pl (y ^^^ 1)<2∨plD s pl (y ^^^ 1)=(sizesL s).length-1→False:=fun y hy k1 k2 k3=>by
  unfold outZ at k1
  rw[(corn_iff h hr hp hy).2 (.inl (by omega)),(corn_iff h hr hp (xor_one_lt h.even hy)).2 k3] at k1
  cases k1
 rcases Nat.eq_zero_or_pos l with q|q
 ·subst q
  exact absurd (.inl (by show farP s pl r<2;omega)) (fun t=>corner_no _ (io 0).1 ho (own 0) t)
 rcases Nat.lt_or_ge l (m-1) with q2|q2
 ·obtain⟨t,rfl⟩:∃ t,l=t+1:=⟨l-1,by omega⟩
  have k:=col_behind h hr hp (io (t+1)).1 ho (by rw[own];have:=big (t+1) q lm;omega)
  have k1:=rise (t+1) q2
  rw[←itf_succ (at' s),inv_it h hr hp hr] at k
  rw[if_neg (fun z=>by omega),if_neg (by omega)] at k
  exact k
 ·have:l=m-1:=by omega
  subst this
  exact absurd (.inr flast) (fun t=>corner_no _ (io _).1 ho (own _) t)
theorem corner_two {x:Nat} (hx:x<s.length) (e:nth (namesL s) x=nth (namesL s) (at' (phiL s) r)) (ho:outZ s r x=false):colZ s r pl x=-1∧colZ s r pl (x ^^^ 1)=2:=by
 have l1:=h.phl hr
 have l2:=h.phl l1
 obtain⟨m,m0,m1,mi,mc,_⟩:=orb_full h l1
 have b:=h.big
 have p0:=plc_first h hr hp
 have p1:=plc_second h hr hp
 have p2:=plc_last h hr hp
 have rm:=xor_one_lt h.even hr
 have io:=it_in h hr hp l1
 have own:∀ l,plD s pl (itf (at' s) l (at' (phiL s) r))=1:=fun l=>by unfold plD;rw[(io l).2];exact p1
 have elast:itf (at' s) (m-1) (at' (phiL s) r)=r ^^^ 1:=by
  have e1:at' s (itf (at' s) (m-1) (at' (phiL s) r))=at' (phiL s) r:=by rw[←itf_succ (at' s),show m-1+1=m by omega];exact m1
  exact h.perm.pm.inj (io _).1 rm (by rw[e1,h.phi_at hr])
 have flast:farP s pl (itf (at' s) (m-1) (at' (phiL s) r))=0:=by
  rw[elast]
  unfold farP plD
  rw[xor_one_one,p0]
 have f0:farP s pl (at' (phiL s) r)=(sizesL s).length-1:=by
  unfold farP plD
  rw[←names_phi h.perm h.even l1,p2]
 have big:∀ l,l<m-1→2≤farP s pl (itf (at' s) l (at' (phiL s) r)):=fun l l1'=>by
  have k1:=far_own h hr hp (io l).1
  rw[own l] at k1
  rcases Nat.lt_or_ge 1 (farP s pl (itf (at' s) l (at' (phiL s) r))) with q|q
  ·exact q
  ·exfalso
   have k2:farP s pl (itf (at' s) l (at' (phiL s) r))=farP s pl (itf (at' s) (m-1) (at' (phiL s) r)):=by omega
   have k3:=place_inj h hr hp (xor_one_lt h.even (io l).1) (xor_one_lt h.even (io (m-1)).1) k2
   have:=mi l (m-1) (by omega) (by omega) (h.dbl _ _ (io l).1 (io (m-1)).1 (by rw[(io l).2,(io (m-1)).2]) k3)
   omega
 have fall:=all_fall (F:=fun l=>farP s pl (itf (at' s) l (at' (phiL s) r))) (n:=m-1) (fun l _=>by
   show farP s pl (itf (at' s) l (at' (phiL s) r))≠farP s pl (itf (at' s) (l+1) (at' (phiL s) r))
   rw[itf_succ]
   exact fun e=>far_ne h hr hp (io l).1 e.symm) (fun l l0 l1' k1 k2=>by
   obtain⟨t,rfl⟩:∃ t,l=t+1:=⟨l-1,by omega⟩
   have fb:=big (t+1) (by omega)
   refine no_low h hr hp (io (t+1)).1 fb (by rw[own];omega) ?_ ?_
   ·rw[inv_it h hr hp l1];exact k1
   ·rw[←itf_succ (at' s)];exact k2) (fun l hl=>by
   show farP s pl (itf (at' s) l (at' (phiL s) r))≤farP s pl (at' (phiL s) r)
   have:=far_lt h hr hp (io l).1
   omega)
 have fall:∀ l,l<m-1→farP s pl (itf (at' s) (l+1) (at' (phiL s) r))<farP s pl (itf (at' s) l (at' (phiL s) r)):=fall
 obtain⟨l,lm,rfl⟩:=mc x hx e
 have corner_no:∀ y,y<s.length→outZ s r y=false→plD s pl y=1→plD s pl (y ^^^ 1)<2∨plD s pl (y ^^^ 1)=(sizesL s).length-1→False:=fun y hy k1 k2 k3=>by
  unfold outZ at k1
  rw[(corn_iff h hr hp hy).2 (.inl (by omega)),(corn_iff h hr hp (xor_one_lt h.even hy)).2 k3] at k1
  cases k1
 rcases Nat.eq_zero_or_pos l with q|q
 ·subst q
  exact absurd (.inr f0) (fun t=>corner_no _ (io 0).1 ho (own 0) t)
 rcases Nat.lt_or_ge l (m-1) with q2|q2
 ·obtain⟨t,rfl⟩:∃ t,l=t+1:=⟨l-1,by omega⟩
  have k:=col_behind h hr hp (io (t+1)).1 ho (by rw[own];have:=big (t+1) q2;omega)
  have k1:=fall (t+1) q2
  have k2:=fall t (by omega)
  rw[←itf_succ (at' s),inv_it h hr hp l1] at k
  rw[if_neg (fun z=>by omega),if_pos k1,if_neg (by omega)] at k
  exact k
 ·have:l=m-1:=by omega
  subst this
  exact absurd (.inl (by show farP s pl _<2;omega)) (fun t=>corner_no _ (io _).1 ho (own _) t)
theorem corner_zero {x:Nat} (hx:x<s.length) (e:nth (namesL s) x=nth (namesL s) (at' (phiL s) (at' (phiL s) r))) (ho:outZ s r x=false):colZ s r pl x=-1∧colZ s r pl (x ^^^ 1)=0:=by
 have p2:=plc_last h hr hp
 have all:∀ y,y<s.length→nth (namesL s) y=nth (namesL s) x→ahZ s pl y=true:=fun y hy k=>by
  refine ahZ_yes ?_
  have k1:=far_own h hr hp hy
  have k2:=far_lt h hr hp hy
  have k3:plD s pl y=(sizesL s).length-1:=by unfold plD;rw[k,e];exact p2
  omega
 obtain⟨i1,i2,i3⟩:=h.inv_lt hx
 have k:=col_ahead h hr hp hx ho (all x hx rfl)
 rw[all _ i1 i3,all _ (h.perm.lt hx) (names_turn h.perm hx)] at k
 exact k
theorem corner_in {x:Nat} (hx:x<s.length) (hc:cornZ s r x=true) (ho:outZ s r x=false):colZ s r pl x=-1 ∧
  colZ s r pl (x ^^^ 1)=if nth (namesL s) x=nth (namesL s) (at' (phiL s) (at' (phiL s) r)) then 0 else if nth (namesL s) x=nth (namesL s) r then 1 else 2:=by
 unfold cornZ at hc
 simp only[Bool.or_eq_true,beq_iff_eq] at hc
 by_cases k1:nth (namesL s) x=nth (namesL s) (at' (phiL s) (at' (phiL s) r))
 ·rw[if_pos k1];exact corner_zero h hr hp hx k1 ho
 ·rw[if_neg k1]
  by_cases k2:nth (namesL s) x=nth (namesL s) r
  ·rw[if_pos k2];exact corner_one h hr hp hx k2 ho
  ·rw[if_neg k2]
   exact corner_two h hr hp hx (by rcases hc with (k|k)|k <;> first|exact k|exact absurd k k1|exact absurd k k2) ho
theorem col_outer {x:Nat} (ho:outZ s r x=true):colZ s r pl x=-1:=by unfold colZ;rw[ho];rfl
theorem col_range (x:Nat):colZ s r pl x=-1∨colZ s r pl x=0∨colZ s r pl x=1∨colZ s r pl x=2:=by
 unfold colZ
 repeat' split
 all_goals simp
theorem col_unique {x:Nat} (hx:x<s.length) (hc:cornZ s r x=false) {c:Int} (h0:0≤c) (h2:c≤2):∃ d,d<s.length∧nth (namesL s) d=nth (namesL s) x∧colZ s r pl d=c∧∀ y,y<s.length→nth (namesL s) y=nth (namesL s) x→colZ s r pl y=c→y=d:=by
 obtain⟨q,u,j,J,m,k⟩:=six_at h hr hp hx hc
 have iq:=it_in h hr hp k.run.ql
 have tell:∀ y,y<s.length→nth (namesL s) y=nth (namesL s) x→(y=u∧colZ s r pl y=1)∨(y=q∧colZ s r pl y=2)∨(y=itf (at' s) m q∧colZ s r pl y=0)∨colZ s r pl y=-1:=fun y hy e=>by
  rcases k.run.cases h hy e with ⟨l,l0,l1,l2⟩|⟨l,l1,l2⟩
  ·rcases Nat.lt_trichotomy l m with e|e|e
   ·have:=k.i1 l l0 e
    rw[←l2] at this
    exact .inr (.inr (.inr this.1))
   ·have:=k.o0
    rw[e] at l2
    rw[←l2] at this
    exact .inr (.inr (.inl ⟨l2,this.1⟩))
   ·have:=k.i2 l e l1
    rw[←l2] at this
    exact .inr (.inr (.inr this.1))
  ·rcases Nat.eq_zero_or_pos l with e|e
   ·subst e
    have:=k.o1
    rw[show u=y from l2.symm] at this
    exact .inl ⟨l2,this.1⟩
   ·rcases Nat.lt_or_ge l J with e2|e2
    ·have:=k.i0 l e e2
     rw[←l2] at this
     exact .inr (.inr (.inr this.1))
    ·have e3:l=J:=by omega
     rw[e3,k.run.uq] at l2
     have:=k.o2
     rw[←l2] at this
     exact .inr (.inl ⟨l2,this.1⟩)
 rcases (by omega:c=0∨c=1∨c=2) with e|e|e <;> subst e
 ·refine⟨_,(iq m).1,(iq m).2.trans k.run.qv,k.o0.1,fun y hy e1 e2=>?_⟩
  rcases tell y hy e1 with ⟨a,b⟩|⟨a,b⟩|⟨a,b⟩|b <;> first|exact a|(rw[e2] at b;exact absurd b (by decide))
 ·refine⟨u,k.run.ul,k.run.uv,k.o1.1,fun y hy e1 e2=>?_⟩
  rcases tell y hy e1 with ⟨a,b⟩|⟨a,b⟩|⟨a,b⟩|b <;> first|exact a|(rw[e2] at b;exact absurd b (by decide))
 ·refine⟨q,k.run.ql,k.run.qv,k.o2.1,fun y hy e1 e2=>?_⟩
  rcases tell y hy e1 with ⟨a,b⟩|⟨a,b⟩|⟨a,b⟩|b <;> first|exact a|(rw[e2] at b;exact absurd b (by decide))
theorem col_corner {x:Nat} (hx:x<s.length) (hc:cornZ s r x=true):colZ s r pl x=-1:=by
 by_cases ho:outZ s r x=true
 ·exact col_outer h hr hp ho
 ·exact (corner_in h hr hp hx hc (by simpa using ho)).1
end
end
end Go.Proofs.YtgphnkkdmlohlaaGreatDoor
