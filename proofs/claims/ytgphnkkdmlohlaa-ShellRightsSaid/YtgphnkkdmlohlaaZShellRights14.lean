/- What a part is: its vertices, edges, borders, its genus; loops and doubles; a forest's bound. -/
import Derived.Test.YtgphnkkdmlohlaaZShellRights07
namespace Go.Proofs.Ytgphnkkdmlohlaa
section
set_option linter.unusedVariables false
theorem phi_ord {s:List Nat} (hs:IsPerm s) (he:s.length % 2=0):Ord s.length (cyc s.length (at' (phiL s))) (namesL (phiL s)) (fun k=>(namesGo (phiL s) k).2):=by
 have:=namesL_ord (phiL_perm hs he)
 rwa [phiL_length] at this
def leadB (t:List Nat) (d:Nat):Bool:=nth (namesL t) d == ((namesGo t d).2:Int)
theorem leadB_iff {t:List Nat} (ht:IsPerm t) {d:Nat} (hd:d<t.length):leadB t d=true↔Least (cyc t.length (at' t)) d:=by
 rw[(namesL_ord ht).least hd]
 unfold leadB
 exact beq_iff_eq
def vcnt (t:List Nat) (N:List Int) (k:Int):Nat→Nat
 | 0=>0
 | j+1=>vcnt t N k j+if nth N j=k∧leadB t j=true then 1 else 0
def ecnt (N:List Int) (k:Int):Nat→Nat
 | 0=>0
 | j+1=>ecnt N k j+if nth N j=k then j % 2 else 0
def dcnt (N:List Int) (k:Int):Nat→Nat
 | 0=>0
 | j+1=>dcnt N k j+if nth N j=k then 1 else 0
theorem vcnt_succ (t:List Nat) (N:List Int) (k:Int) (j:Nat):vcnt t N k (j+1)=vcnt t N k j+if nth N j=k∧leadB t j=true then 1 else 0:=rfl
theorem ecnt_succ (N:List Int) (k:Int) (j:Nat):ecnt N k (j+1)=ecnt N k j+if nth N j=k then j % 2 else 0:=rfl
theorem vcnt_tally {t:List Nat} (ht:IsPerm t) (N:List Int) (k:Int):∀ {j:Nat},j≤t.length→vcnt t N k j=tally (fun d=>nth N d=k∧Least (cyc t.length (at' t)) d) j
 | 0,_=>rfl
 | j+1,hj=>by
  rw[tally_succ,←vcnt_tally ht N k (j:=j) (by omega),vcnt_succ]
  have:=leadB_iff ht (d:=j) (by omega)
  by_cases h:nth N j=k∧leadB t j=true
  ·rw[if_pos h,ind_yes ⟨h.1,this.1 h.2⟩]
  ·rw[if_neg h,ind_no (fun h'=>h ⟨h'.1,this.2 h'.2⟩)]
theorem vcnt_le (t:List Nat) (N:List Int) (k:Int):∀ (j:Nat),vcnt t N k j≤j
 | 0=>Nat.le_refl _
 | j+1=>by have:=vcnt_le t N k j;unfold vcnt;split <;> omega
theorem ecnt_le (N:List Int) (k:Int):∀ (j:Nat),ecnt N k j≤j
 | 0=>Nat.le_refl _
 | j+1=>by have:=ecnt_le N k j;unfold ecnt;split <;> omega
theorem edges_tally {s:List Nat} {N:List Int} (k:Int) (hm:∀ x,x<s.length→nth N (x ^^^ 1)=nth N x):∀ {e:Nat},2*e≤s.length →
  ecnt N k (2*e)=tally (fun e=>nth N (2*e)=k) e∧dcnt N k (2*e)=2*tally (fun e=>nth N (2*e)=k) e
 | 0,_=>⟨rfl,rfl⟩
 | e+1,he=>by
  obtain⟨h1,h2⟩:=edges_tally k hm (e:=e) (by omega)
  have h3:=hm (2*e) (by omega)
  rw[xor_even] at h3
  rw[show 2*(e+1)=2*e+1+1 by omega,tally_succ]
  unfold ecnt dcnt
  unfold ecnt dcnt
  rw[h1,h2,h3]
  by_cases h:nth N (2*e)=k
  ·rw[if_pos h,if_pos h,ind_yes h,if_pos h];omega
  ·rw[if_neg h,if_neg h,ind_no h,if_neg h];omega
def rootOf (N:List Int) (k:Int):Nat:=N.findIdx (fun x=>x == k)
theorem rootOf_eq {N:List Int} {k:Int} {j:Nat} (hj:j<N.length) (h:nth N j=k) (hn:∀ i,i<j→nth N i≠k):rootOf N k=j:=by
 unfold rootOf
 rw[List.findIdx_eq hj]
 refine⟨by simp[nth,hj] at h;simp[h],fun i hi=>?_⟩
 have:=hn i hi
 simp[nth,show i<N.length by omega] at this
 simpa using this
theorem Ord.first {n:Nat} {r:Nat→Nat→Prop} {N:List Int} {cnt:Nat→Nat} (h:Ord n r N cnt) {j:Nat} (hj:j<n) (e:nth N j=cnt j):∀ i,i<j→nth N i≠cnt j:=fun i hi=>by
 have h1:=(h.bound (k:=i) (by omega)).2
 have h2:=h.mono (k:=i+1) (l:=j) (by omega) (by omega)
 omega
structure PartR where
 root:Int
 v:Int
 e:Int
 b:Int
 g:Int
deriving DecidableEq
def partAt (s:List Nat) (N:List Int) (g:Int) (j k:Nat):PartR:=⟨(rootOf N (k:Int):Nat),(vcnt s N (k:Int) j:Nat),(ecnt N (k:Int) j:Nat),(vcnt (phiL s) N (k:Int) j:Nat),g⟩
def genOf (s:List Nat) (N:List Int) (k:Nat):Int:=(2-(vcnt s N (k:Int) s.length:Nat)+(ecnt N (k:Int) s.length:Nat)-(vcnt (phiL s) N (k:Int) s.length:Nat)) / 2
def partF (s:List Nat) (k:Nat):PartR:=partAt s (partsL s) (genOf s (partsL s) k) s.length k
def loneR:PartR:=⟨-1,1,0,1,0⟩
def genusTo (s:List Nat):Nat→Int
 | 0=>0
 | k+1=>genusTo s k+genOf s (partsL s) k
def genusL (s:List Nat):Int:=genusTo s (partsN s)
theorem partsL_mate {s:List Nat} (hs:IsPerm s) (he:s.length % 2=0) {x:Nat} (hx:x<s.length):nth (partsL s) (x ^^^ 1)=nth (partsL s) x:=
 ((partsL_ord hs he).rel _ _ (xor_one_lt he hx) hx).2 ((Con.per hs).symm (Con.mate hs he hx))
theorem partsL_step {s:List Nat} (hs:IsPerm s) (he:s.length % 2=0) {x:Nat} (hx:x<s.length):nth (partsL s) (at' s x)=nth (partsL s) x:=
 ((partsL_ord hs he).rel _ _ (hs.lt hx) hx).2 ((Con.per hs).symm (Con.step hs hx))
theorem partsL_closed {s:List Nat} (hs:IsPerm s) (he:s.length % 2=0) (k:Int):Closed s (fun x=>nth (partsL s) x=k):=
 ⟨fun x hx=>by show nth (partsL s) _=k↔nth (partsL s) x=k;rw[partsL_step hs he hx],fun x hx=>by show nth (partsL s) _=k↔nth (partsL s) x=k;rw[partsL_mate hs he hx]⟩
theorem part_euler {s:List Nat} (hs:IsPerm s) (he:s.length % 2=0) {k:Nat} (hk:k<partsN s):
  ∃ t,vcnt s (partsL s) (k:Int) s.length+vcnt (phiL s) (partsL s) (k:Int) s.length+2*t=ecnt (partsL s) (k:Int) s.length+2:=by
 have hP:=partsL_closed hs he (k:Int)
 obtain⟨t,h⟩:=euler_go hs he hP (k:=s.length / 2) (by omega)
 have hO:=partsL_ord hs he
 have h1:cls (st s (s.length / 2)) (fun x=>nth (partsL s) x=(k:Int)) s.length=1:=by
  obtain⟨j,hj,e1,e2⟩:=hO.has (Nat.le_refl _) k hk
  have hl:=(hO.least hj).2 (by show nth (partsL s) j=_;rw[e1,show (partsGo s j).2=k from e2])
  show tally (fun x=>nth (partsL s) x=(k:Int)∧Least (Con s) x) s.length=1
  rw[tally_but hj ⟨e1,hl⟩,tally_none (n:=s.length) (p:=fun x=>(nth (partsL s) x=(k:Int)∧Least (Con s) x)∧x≠j)]
  rintro x hx ⟨⟨a,b⟩,c⟩
  exact c ((Con.per hs).least_one b hl ((hO.rel x j hx hj).1 (by rw[a,e1])))
 have h2:=vcnt_tally hs (partsL s) (k:Int) (Nat.le_refl _)
 have h3:=vcnt_tally (phiL_perm hs he) (partsL s) (k:Int) (j:=s.length) (by rw[phiL_length];exact Nat.le_refl _)
 rw[phiL_length] at h3
 have h4:=(edges_tally (s:=s) (k:Int) (fun x hx=>partsL_mate hs he hx) (e:=s.length / 2) (by omega)).1
 rw[show 2*(s.length / 2)=s.length by omega] at h4
 have h5:cls (cyc s.length (fk s (s.length / 2))) (fun x=>nth (partsL s) x=(k:Int)) s.length=cls (cyc s.length (at' (phiL s))) (fun x=>nth (partsL s) x=(k:Int)) s.length:=
  cls_congr fun x y _ _=>cyc_congr (fk_pm hs (by omega)) fun z hz=>fk_all he hz
 rw[h5,h1] at h
 refine⟨t,?_⟩
 rw[h2,h3,h4]
 have h6:cls (cyc s.length (at' s)) (fun x=>nth (partsL s) x=(k:Int)) s.length=tally (fun d=>nth (partsL s) d=(k:Int)∧Least (cyc s.length (at' s)) d) s.length:=rfl
 have h7:cls (cyc s.length (at' (phiL s))) (fun x=>nth (partsL s) x=(k:Int)) s.length=tally (fun d=>nth (partsL s) d=(k:Int)∧Least (cyc s.length (at' (phiL s))) d) s.length:=rfl
 rw[h6,h7] at h
 omega
theorem genOf_euler {s:List Nat} (hs:IsPerm s) (he:s.length % 2=0) {k:Nat} (hk:k<partsN s):0≤genOf s (partsL s) k ∧
  ((vcnt s (partsL s) (k:Int) s.length:Nat):Int)-(ecnt (partsL s) (k:Int) s.length:Nat)+(vcnt (phiL s) (partsL s) (k:Int) s.length:Nat)=2-2*genOf s (partsL s) k:=by
 obtain⟨t,h⟩:=part_euler hs he hk
 unfold genOf
 omega
theorem partsN_le {s:List Nat} (hs:IsPerm s) (he:s.length % 2=0):partsN s≤s.length:=(partsL_ord hs he).cnt_le (Nat.le_refl _)
theorem partsL_lt {s:List Nat} (hs:IsPerm s) (he:s.length % 2=0) {x:Nat} (hx:x<s.length):0≤nth (partsL s) x∧nth (partsL s) x<partsN s:=by
 have h:=(partsL_ord hs he).bound hx
 have h2:=(partsL_ord hs he).mono (k:=x+1) (l:=s.length) (by omega) (Nat.le_refl _)
 have h2:(partsGo s (x+1)).2≤partsN s:=h2
 have h:0≤nth (partsL s) x∧nth (partsL s) x<((partsGo s (x+1)).2:Int):=h
 exact⟨h.1,by omega⟩
def sumN (f:Nat→Nat):Nat→Nat
 | 0=>0
 | k+1=>sumN f k+f k
theorem sumN_congr {f g:Nat→Nat}:∀ {C:Nat},(∀ k,k<C→f k=g k)→sumN f C=sumN g C
 | 0,_=>rfl
 | C+1,h=>by unfold sumN;rw[sumN_congr fun k hk=>h k (by omega),h C (by omega)]
theorem sumN_zero:∀ {C:Nat},sumN (fun _=>0) C=0
 | 0=>rfl
 | C+1=>by unfold sumN;rw[sumN_zero]
theorem sumN_step {f g:Nat→Nat} {y a:Nat}:∀ {C:Nat},(∀ k,k<C→g k=f k+if k=y then a else 0)→sumN g C=sumN f C+if y<C then a else 0
 | 0,_=>by simp[sumN]
 | C+1,h=>by
  unfold sumN
  rw[sumN_step (C:=C) fun k hk=>h k (by omega),h C (by omega)]
  by_cases e:C=y
  ·subst e;simp;omega
  ·by_cases h':y<C
   ·rw[if_pos h',if_neg e,if_pos (by omega)];omega
   ·rw[if_neg h',if_neg e,if_neg (by omega)];omega
theorem sum_vcnt {t:List Nat} (ht:IsPerm t) {N:List Int} {C:Nat} (hN:∀ x,x<t.length→0≤nth N x∧nth N x<C):∀ {j:Nat},j≤t.length→sumN (fun k=>vcnt t N (k:Int) j) C=(namesGo t j).2
 | 0,_=>by rw[show (fun k:Nat=>vcnt t N (k:Int) 0)=fun _=>0 from rfl,sumN_zero];rfl
 | j+1,hj=>by
  obtain⟨y,hy⟩:=Int.eq_ofNat_of_zero_le (hN j (by omega)).1
  have hyC:=(hN j (by omega)).2
  have hs:sumN (fun k=>vcnt t N (k:Int) (j+1)) C=sumN (fun k=>vcnt t N (k:Int) j) C+if y<C then (if leadB t j=true then 1 else 0) else 0:=sumN_step fun k _=>by
   show vcnt t N (k:Int) j+(if nth N j=(k:Int)∧leadB t j=true then 1 else 0)=_
   congr 1
   by_cases e:k=y
   ·subst e;simp[hy]
   ·have:¬ nth N j=(k:Int):=by rw[hy];omega
    simp[this,e]
  rw[hs,sum_vcnt ht hN (j:=j) (by omega),if_pos (by omega)]
  unfold leadB
  rcases names_next ht (k:=j) (by omega) with ⟨a,b,c⟩|⟨a,b⟩
  ·rw[c,if_neg];rfl
   rw[beq_iff_eq];omega
  ·rw[b,if_pos]
   rw[beq_iff_eq];exact a
theorem sum_ecnt {n:Nat} {N:List Int} {C:Nat} (hN:∀ x,x<n→0≤nth N x∧nth N x<C):∀ {j:Nat},j≤n→sumN (fun k=>ecnt N (k:Int) j) C=j / 2
 | 0,_=>by rw[show (fun k:Nat=>ecnt N (k:Int) 0)=fun _=>0 from rfl,sumN_zero]
 | j+1,hj=>by
  obtain⟨y,hy⟩:=Int.eq_ofNat_of_zero_le (hN j (by omega)).1
  have hyC:=(hN j (by omega)).2
  have hs:sumN (fun k=>ecnt N (k:Int) (j+1)) C=sumN (fun k=>ecnt N (k:Int) j) C+if y<C then j % 2 else 0:=sumN_step fun k _=>by
   show ecnt N (k:Int) j+(if nth N j=(k:Int) then j % 2 else 0)=_
   congr 1
   by_cases e:k=y
   ·subst e;simp[hy]
   ·have:¬ nth N j=(k:Int):=by rw[hy];omega
    simp[this,e]
  rw[hs,sum_ecnt hN (j:=j) (by omega),if_pos (by omega)]
  omega
def loopB (s:List Nat) (e:Nat):Bool:=nth (namesL s) (2*e) == nth (namesL s) (2*e+1)
def loopsTo (s:List Nat):Nat→Nat
 | 0=>0
 | e+1=>loopsTo s e+if loopB s e=true then 1 else 0
def pairB (s:List Nat) (e f:Nat):Bool:=
 (nth (namesL s) (2*f) == nth (namesL s) (2*e) && nth (namesL s) (2*f+1) == nth (namesL s) (2*e+1)) || (nth (namesL s) (2*f) == nth (namesL s) (2*e+1) && nth (namesL s) (2*f+1) == nth (namesL s) (2*e))
def dblB (s:List Nat) (e:Nat):Bool:=!loopB s e && (List.range e).any fun f=>pairB s e f
def dblsTo (s:List Nat):Nat→Nat
 | 0=>0
 | e+1=>dblsTo s e+if dblB s e=true then 1 else 0
def loopsL (s:List Nat):Nat:=loopsTo s (s.length / 2)
def dblsL (s:List Nat):Nat:=dblsTo s (s.length / 2)
theorem loopsTo_le (s:List Nat):∀ e,loopsTo s e≤e
 | 0=>Nat.le_refl _
 | e+1=>by have:=loopsTo_le s e;unfold loopsTo;split <;> omega
theorem dblsTo_le (s:List Nat):∀ e,dblsTo s e≤e
 | 0=>Nat.le_refl _
 | e+1=>by have:=dblsTo_le s e;unfold dblsTo;split <;> omega
end
section
set_option linter.unusedVariables false
end
section
set_option linter.unusedVariables false
def vtx (s:List Nat) (x:Nat):Nat:=(nth (namesL s) x).toNat
theorem vtx_eq {s:List Nat} (hs:IsPerm s) {x:Nat} (hx:x<s.length):nth (namesL s) x=(vtx s x:Int):=by
 unfold vtx
 have:=(names_lt hs hx).1
 omega
theorem vtx_lt {s:List Nat} (hs:IsPerm s) {x:Nat} (hx:x<s.length):vtx s x<(sizesL s).length:=by
 have h1:=vtx_eq hs hx
 have h2:=(names_lt hs hx).2
 omega
def getB (l:List Bool) (i:Nat):Bool:=l.getD i false
structure WSt where
 d:Nat
 ed:List Int
 mt:List Bool
def wkind (s:List Nat) (st:WSt):Nat:=
 if nth st.ed (st.d / 2)=0 then (if getB st.mt (vtx s (st.d ^^^ 1))=true then 2 else 0) else if nth st.ed (st.d / 2)=1 then 1 else 3
def wed (s:List Nat) (st:WSt):List Int:=if nth st.ed (st.d / 2)=0 then st.ed.set (st.d / 2) ((wkind s st:Int)+1) else st.ed
def wmt (s:List Nat) (st:WSt):List Bool:=if wkind s st=0 then st.mt.set (vtx s (st.d ^^^ 1)) true else st.mt
def wdart (s:List Nat) (st:WSt):Nat:=at' s (if wkind s st<2 then st.d ^^^ 1 else st.d)
def wnext (s:List Nat) (st:WSt):WSt:=⟨wdart s st,wed s st,wmt s st⟩
def wst (s:List Nat) (V root:Nat):Nat→WSt
 | 0=>⟨root,List.replicate (s.length / 2) 0,(List.replicate V false).set (vtx s root) true⟩
 | i+1=>wnext s (wst s V root i)
def wd (s:List Nat) (V root i:Nat):Nat:=(wst s V root i).d
def wk (s:List Nat) (V root i:Nat):Nat:=wkind s (wst s V root i)
section
variable {s : List Nat} (hs : IsPerm s) (he : s.length % 2 = 0) {V root : Nat} (hr : root < s.length) (hV : (sizesL s).length ≤ V)
include hs he hr hV
end
end
section
set_option linter.unusedVariables false
section
variable {s : List Nat} (hs : IsPerm s) (he : s.length % 2 = 0) {V root : Nat} (hr : root < s.length) (hV : (sizesL s).length ≤ V)
include hs he hr hV
end
end
section
set_option linter.unusedVariables false
def conF (n:Nat) (f:Nat→Nat) (x y:Nat):Prop:=x<n∧y<n∧∀ r:Nat→Nat→Prop,Per n r→(∀ z,z<n→r z (f z))→(∀ z,z<n→r z (z ^^^ 1))→r x y
theorem conF_per (n:Nat) (f:Nat→Nat):Per n (conF n f):=
 ⟨fun hx=>⟨hx,hx,fun r hr _ _=>hr.refl hx⟩,fun h=>⟨h.2.1,h.1,fun r hr h1 h2=>hr.symm (h.2.2 r hr h1 h2)⟩,fun h k=>⟨h.1,k.2.1,fun r hr h1 h2=>hr.trans (h.2.2 r hr h1 h2) (k.2.2 r hr h1 h2)⟩,fun h=>h.1⟩
theorem conF_step {n:Nat} {f:Nat→Nat} (h:Pm n f) {x:Nat} (hx:x<n):conF n f x (f x):=⟨hx,h.lt hx,fun r _ h1 _=>h1 x hx⟩
theorem conF_mate {n:Nat} {f:Nat→Nat} (he:n % 2=0) {x:Nat} (hx:x<n):conF n f x (x ^^^ 1):=⟨hx,xor_one_lt he hx,fun r _ _ h2=>h2 x hx⟩
def phiF (f:Nat→Nat) (x:Nat):Nat:=f (x ^^^ 1)
theorem Pm.phi {n:Nat} {f:Nat→Nat} (h:Pm n f) (he:n % 2=0):Pm n (phiF f):=
 ⟨fun hx=>h.lt (xor_one_lt he hx),fun {x y} hx hy e=>by
  have e1:=h.inj (xor_one_lt he hx) (xor_one_lt he hy) e
  rw[←xor_one_one x,e1,xor_one_one]⟩
def Any (_:Nat):Prop:=True
def PlanF (n:Nat) (f:Nat→Nat):Prop:=n / 2+2*cls (conF n f) Any n≤cls (cyc n f) Any n+cls (cyc n (phiF f)) Any n
theorem cls_le {n:Nat} {r q:Nat→Nat→Prop} {P:Nat→Prop} (h:∀ x y,r x y→q x y):cls q P n≤cls r P n:=
 tally_mono fun x _ k=>⟨k.1,fun y hy hr=>k.2 y hy (h y x hr)⟩
theorem phi_swp (f:Nat→Nat) (a b x:Nat):phiF (swp f a b) x=swp (phiF f) (a ^^^ 1) (b ^^^ 1) x:=by
 have e:∀ c:Nat,(x ^^^ 1=c)=(x=c ^^^ 1):=fun c=>propext ⟨fun k=>by rw[←k,xor_one_one],fun k=>by rw[k,xor_one_one]⟩
 unfold phiF swp
 simp only[e,xor_one_one]
theorem PlanF.part {n:Nat} {f:Nat→Nat} (hp:PlanF n f) (h:Pm n f) (he:n % 2=0) {a b:Nat} (hab:a≠b) (hc:cyc n f a b):PlanF n (swp f a b):=by
 have ha:a<n:=hc.1
 have hb:b<n:=hc.2.1
 have hg:=h.swap ha hb hab
 have hphi:=h.phi he
 have hphg:=hg.phi he
 have hab':a ^^^ 1≠b ^^^ 1:=fun e=>hab (by rw[←xor_one_one a,e,xor_one_one])
 have hV:cls (cyc n f) Any n+1=cls (cyc n (swp f a b)) Any n:=by
  rcases h.swp_cls (P:=Any) (fun _ _=>Iff.rfl) ha hb hab trivial trivial with ⟨k,_⟩|⟨_,k⟩
  ·exact absurd hc k
  ·exact k
 have hE:cls (cyc n (phiF (swp f a b))) Any n=cls (cyc n (swp (phiF f) (a ^^^ 1) (b ^^^ 1))) Any n:=cls_congr fun x y _ _=>cyc_congr hphg fun z _=>phi_swp f a b z
 have hsub:∀ x y,conF n f x y→mrg (conF n (swp f a b)) a b x y:=fun x y hxy=>by
  have hper:=(conF_per n (swp f a b)).mrg ha hb
  refine hxy.2.2 _ hper (fun z hz=>?_) (fun z hz=>Or.inl (conF_mate he hz))
  by_cases e1:z=a
  ·rw[e1]
   have k:=conF_step hg hb
   rw[swp_b f hab] at k
   exact Or.inr (Or.inl ⟨(conF_per _ _).refl ha,k⟩)
  ·by_cases e2:z=b
   ·rw[e2]
    have k:=conF_step hg ha
    rw[swp_a] at k
    exact Or.inr (Or.inr ⟨(conF_per _ _).refl hb,k⟩)
   ·have k:=conF_step hg hz
    rw[swp_o f e1 e2] at k
    exact Or.inl k
 have hP:=cls_le (P:=Any) (n:=n) hsub
 have hF:=hphi.swp_cls (P:=Any) (fun _ _=>Iff.rfl) (xor_one_lt he ha) (xor_one_lt he hb) hab' trivial trivial
 unfold PlanF at hp ⊢
 by_cases hr:conF n (swp f a b) a b
 ·have e2:cls (conF n (swp f a b)) Any n=cls (mrg (conF n (swp f a b)) a b) Any n:=cls_congr fun x y _ _=>((conF_per _ _).mrg_same hr).symm
  rcases hF with ⟨_,k⟩|⟨_,k⟩ <;> omega
 ·have e2:=cls_mrg (conF_per n (swp f a b)) (P:=Any) (fun _ _ _ _=>trivial) ha hb hr trivial trivial
  rcases hF with ⟨k0,k⟩|⟨_,k⟩
  ·refine absurd ?_ hr
   have k1:=hphi.swp_join (xor_one_lt he ha) (xor_one_lt he hb) hab' k0
   have k2:=(cyc_congr hphg (fun z _=>phi_swp f a b z)).2 k1
   have k3:conF n (swp f a b) (a ^^^ 1) (b ^^^ 1):=hphg.cyc_sub (conF_per _ _) (fun z hz=>(conF_per _ _).trans (conF_mate he hz) (conF_step hg (xor_one_lt he hz))) k2
   exact (conF_per _ _).trans (conF_mate he ha) ((conF_per _ _).trans k3 ((conF_per _ _).symm (conF_mate he hb)))
  ·omega
theorem Pm.pre {n:Nat} {f:Nat→Nat} (h:Pm n f) {d:Nat} (hd:d<n):∃ a,a<n∧f a=d:=by
 obtain⟨k,hk,e⟩:=h.back hd
 refine⟨itf f (k-1) d,h.it hd _,?_⟩
 rw[←itf_succ f,show k-1+1=k by omega]
 exact e
def NextF (f:Nat→Nat) (R:Nat→Prop) (x y:Nat):Prop:=∃ j,0<j∧itf f j x=y∧∀ i,0<i→i<j→R (itf f i x)
structure PullF (n:Nat) (f:Nat→Nat) (R:Nat→Prop) (g:Nat→Nat):Prop where
 pm:Pm n g
 plan:PlanF n g
 out:∀ x,x<n→R x→g x=x
 stay:∀ x,x<n→¬ R x→¬ R (g x)
 next:∀ x,x<n→¬ R x→NextF f R x (g x)
theorem PlanF.pull {n:Nat} {f:Nat→Nat} (hp:PlanF n f) (h:Pm n f) (he:n % 2=0) (R:Nat→Prop):∀ k,k≤n→∃ g,PullF n f (fun x=>x<k∧R x) g
 | 0,_=>⟨f,h,hp,fun x _ k=>absurd k.1 (by omega),fun x _ _ k=>absurd k.1 (by omega),fun x _ _=>⟨1,by omega,rfl,fun i _ _=>by omega⟩⟩
 | k+1,hk=>by
  obtain⟨g,h1,h2,h3,h4,h5⟩:=hp.pull h he R k (by omega)
  rcases Classical.em (¬ R k) with hR|hR
  ·have e:(fun x=>x<k+1∧R x)=(fun x=>x<k∧R x):=funext fun x=>propext ⟨fun ⟨a,b⟩=>⟨by
    have:x≠k:=fun e=>hR (e ▸ b)
    omega,b⟩,fun ⟨a,b⟩=>⟨by omega,b⟩⟩
   rw[e]
   exact⟨g,h1,h2,h3,h4,h5⟩
  ·have hR:R k:=Classical.not_not.1 hR
   have hkn:k<n:=by omega
   have hkk:¬ (k<k∧R k):=fun k=>by omega
   have hsp:∀ x,(x<k+1∧R x)↔((x<k∧R x)∨x=k):=fun x=>⟨fun ⟨a,b⟩=>by
    by_cases e:x=k
    ·exact Or.inr e
    ·exact Or.inl ⟨by omega,b⟩,fun q=>by
    rcases q with q|rfl
    ·exact⟨by omega,q.2⟩
    ·exact⟨by omega,hR⟩⟩
   by_cases hfix:g k=k
   ·refine⟨g,h1,h2,fun x hx hr=>?_,fun x hx hr hr'=>?_,fun x hx hr=>?_⟩
    ·rcases (hsp x).1 hr with q|rfl
     ·exact h3 x hx q
     ·exact hfix
    ·rcases (hsp _).1 hr' with q|q
     ·exact h4 x hx (fun q'=>hr ((hsp x).2 (Or.inl q'))) q
     ·have:=h1.inj hx hkn (q.trans hfix.symm)
      exact hr ((hsp x).2 (Or.inr this))
    ·obtain⟨j,j1,j2,j3⟩:=h5 x hx (fun q'=>hr ((hsp x).2 (Or.inl q')))
     exact⟨j,j1,j2,fun i a b=>(hsp _).2 (Or.inl (j3 i a b))⟩
   ·obtain⟨a,ha,ea⟩:=h1.pre hkn
    have hak:a≠k:=fun e=>hfix (by rw[←e];rw[ea];exact e.symm)
    have haR:¬ (a<k∧R a):=fun q=>hak (by have:=h3 a ha q;rw[ea] at this;exact this.symm)
    have hc:cyc n g a k:=⟨ha,hkn,1,ea⟩
    refine⟨swp g a k,h1.swap ha hkn hak,h2.part h1 he hak hc,fun x hx hr=>?_,fun x hx hr hr'=>?_,fun x hx hr=>?_⟩
    ·rcases (hsp x).1 hr with q|rfl
     ·rw[swp_o g (fun e=>haR (by rw[←e];exact q)) (by omega)]
      exact h3 x hx q
     ·rw[swp_b g hak,ea]
    ·have hxk:x≠k:=fun e=>hr ((hsp x).2 (Or.inr e))
     have hxR:¬ (x<k∧R x):=fun q=>hr ((hsp x).2 (Or.inl q))
     by_cases e:x=a
     ·rw[e,swp_a] at hr'
      rcases (hsp _).1 hr' with q|q
      ·exact h4 k hkn hkk q
      ·exact hfix q
     ·rw[swp_o g e hxk] at hr'
      rcases (hsp _).1 hr' with q|q
      ·exact h4 x hx hxR q
      ·exact e (h1.inj hx ha (q.trans ea.symm))
    ·have hxk:x≠k:=fun e=>hr ((hsp x).2 (Or.inr e))
     have hxR:¬ (x<k∧R x):=fun q=>hr ((hsp x).2 (Or.inl q))
     obtain⟨j,j1,j2,j3⟩:=h5 x hx hxR
     by_cases e:x=a
     ·subst e
      rw[swp_a]
      obtain⟨l,l1,l2,l3⟩:=h5 k hkn hkk
      rw[ea] at j2
      refine⟨l+j,by omega,by rw[itf_add,j2,l2],fun i i1 i2=>?_⟩
      rcases Nat.lt_trichotomy i j with q|q|q
      ·exact (hsp _).2 (Or.inl (j3 i i1 q))
      ·exact (hsp _).2 (Or.inr (by rw[q,j2]))
      ·have k1:=l3 (i-j) (by omega) (by omega)
       have k3:itf f (i-j) k=itf f i x:=by rw[←j2,←itf_add,show i-j+j=i by omega]
       rw[k3] at k1
       exact (hsp _).2 (Or.inl k1)
     ·rw[swp_o g e hxk]
      exact⟨j,j1,j2,fun i a b=>(hsp _).2 (Or.inl (j3 i a b))⟩
theorem PlanF.out {n:Nat} {f:Nat→Nat} (hp:PlanF n f) (h:Pm n f) (he:n % 2=0) (R:Nat→Prop) (hR:∀ x,R x→x<n):∃ g,PullF n f R g:=by
 obtain⟨g,k⟩:=hp.pull h he R n (Nat.le_refl _)
 rw[show (fun x=>x<n∧R x)=R from funext fun x=>propext ⟨fun q=>q.2,fun q=>⟨hR x q,q⟩⟩] at k
 exact⟨g,k⟩
theorem PullF.cyc {n:Nat} {f g:Nat→Nat} {R:Nat→Prop} (hg:PullF n f R g) (h:Pm n f) {x y:Nat} (hx:¬ R x) (hy:¬ R y) (hc:Go.Proofs.Ytgphnkkdmlohlaa.cyc n f x y):Go.Proofs.Ytgphnkkdmlohlaa.cyc n g x y:=by
 obtain⟨hx',hy',m,e⟩:=hc
 induction m using Nat.strongRecOn generalizing x with
 | ind m ih=>
  by_cases hm:m=0
  ·subst hm
   have e:x=y:=e
   subst e
   exact hg.pm.per.refl hx'
  ·obtain⟨j,j1,j2,j3⟩:=hg.next x hx' hx
   have hjm:j≤m:=by
    rcases Nat.lt_or_ge m j with q|q
    ·exact absurd (e ▸ j3 m (by omega) q) hy
    ·exact q
   have e2:itf f (m-j) (g x)=y:=by rw[←j2,←itf_add,show m-j+j=m by omega];exact e
   exact hg.pm.per.trans (hg.pm.step hx') (ih (m-j) (by omega) (hg.stay x hx' hx) (hg.pm.lt hx') e2)
end
section
set_option linter.unusedVariables false
set_option linter.unusedSectionVars false
def prI (k i:Nat):Nat:=if i=0 then k else i-1
def nxI (k i:Nat):Nat:=if i=k then 0 else i+1
theorem nxI_le {k i:Nat} (h:i≤k):nxI k i≤k:=by unfold nxI;split <;> omega
theorem prI_le {k i:Nat} (h:i≤k):prI k i≤k:=by unfold prI;split <;> omega
theorem prI_nxI {k i:Nat} (h:i≤k):prI k (nxI k i)=i:=by unfold prI nxI;split <;> split <;> omega
def onB (n:Nat) (f:Nat→Nat) (k:Nat) (a:Nat→Nat) (x:Nat):Prop:=∃ i,i≤k∧cyc n f (a i) x
structure Rim (n:Nat) (f:Nat→Nat) (k:Nat) (a:Nat→Nat):Prop where
 two:2≤k
 lt:∀ i,i≤k→a i<n
 one:∀ i j,i≤k→j≤k→cyc n f (a i) (a j)→i=j
 side:∀ i,i≤k→∃ j,0<j∧itf f j (a i)=a (prI k i) ^^^ 1∧∀ l,0<l→l<j→¬ onB n f k a (itf f l (a i) ^^^ 1)
structure Simp (n:Nat) (f:Nat→Nat):Prop where
 pm:Pm n f
 even:n % 2=0
 plan:PlanF n f
 loop:∀ x,x<n→¬ cyc n f x (x ^^^ 1)
 dbl:∀ x y,x<n→y<n→cyc n f x y→cyc n f (x ^^^ 1) (y ^^^ 1)→x=y
section
variable {n : Nat} {f : Nat → Nat} {k : Nat} {a : Nat → Nat}
def offB (n:Nat) (f:Nat→Nat) (k:Nat) (a:Nat→Nat) (x:Nat):Prop:=x<n∧¬ (onB n f k a x∧onB n f k a (x ^^^ 1))
def outer (k:Nat) (a:Nat→Nat) (x:Nat):Prop:=∃ i,i≤k∧x=a i ^^^ 1
def innerB (n:Nat) (f:Nat→Nat) (k:Nat) (a:Nat→Nat) (x:Nat):Prop:=x<n∧¬ offB n f k a x∧¬ outer k a x
def chordB (n:Nat) (f:Nat→Nat) (k:Nat) (a:Nat→Nat) (x:Nat):Prop:=innerB n f k a x∧∀ i,i≤k→x≠a i
theorem onB.cyc (hs:Simp n f) {x y:Nat} (h:onB n f k a x) (hc:Go.Proofs.Ytgphnkkdmlohlaa.cyc n f x y):onB n f k a y:=by
 obtain⟨i,hi,h⟩:=h;exact⟨i,hi,hs.pm.per.trans h hc⟩
theorem on_of {x:Nat} (hx:x<n) (h:¬ offB n f k a x):onB n f k a x∧onB n f k a (x ^^^ 1):=Classical.byContradiction fun q=>h ⟨hx,q⟩
theorem off_not {x:Nat} (h1:onB n f k a x) (h2:onB n f k a (x ^^^ 1)):¬ offB n f k a x:=fun q=>q.2 ⟨h1,h2⟩
theorem off_mate (hs:Simp n f) {x:Nat}:offB n f k a (x ^^^ 1)↔offB n f k a x:=by
 have key:∀ x,offB n f k a x→offB n f k a (x ^^^ 1):=fun x q=>⟨xor_one_lt hs.even q.1,fun w=>q.2 ⟨by have:=w.2;rwa [xor_one_one] at this,w.1⟩⟩
 exact⟨fun q=>by have:=key _ q;rwa [xor_one_one] at this,key x⟩
variable (hs : Simp n f) (hr : Rim n f k a)
include hs hr
theorem Rim.at_next {i:Nat} (hi:i≤k):Go.Proofs.Ytgphnkkdmlohlaa.cyc n f (a (nxI k i)) (a i ^^^ 1):=by
 obtain⟨j,_,e,_⟩:=hr.side (nxI k i) (nxI_le hi)
 rw[prI_nxI hi] at e
 exact⟨hr.lt _ (nxI_le hi),xor_one_lt hs.even (hr.lt i hi),j,e⟩
theorem Rim.on {i:Nat} (hi:i≤k):onB n f k a (a i):=⟨i,hi,hs.pm.per.refl (hr.lt i hi)⟩
theorem Rim.on' {i:Nat} (hi:i≤k):onB n f k a (a i ^^^ 1):=⟨_,nxI_le hi,hr.at_next hs hi⟩
theorem Rim.stay {i:Nat} (hi:i≤k):¬ offB n f k a (a i):=off_not (hr.on hs hi) (hr.on' hs hi)
theorem Rim.stay' {i:Nat} (hi:i≤k):¬ offB n f k a (a i ^^^ 1):=fun q=>hr.stay hs hi ((off_mate hs).1 q)
theorem Rim.not_outer {i:Nat} (hi:i≤k):¬ outer k a (a i):=by
 rintro⟨j,hj,e⟩
 have h1:=hr.at_next hs hj
 rw[←e] at h1
 have e1:=hr.one _ _ (nxI_le hj) hi h1
 have h2:=hr.at_next hs hi
 rw[e,xor_one_one] at h2
 have e2:=hr.one _ _ (nxI_le hi) hj h2
 have:=hr.two
 unfold nxI at e1 e2
 split at e1 <;> split at e2 <;> omega
variable {g : Nat → Nat} (hg : PullF n f (offB n f k a) g)
include hg
theorem Rim.turn {i:Nat} (hi:i≤k):g (a i)=a (prI k i) ^^^ 1:=by
 obtain⟨j,j1,j2,j3⟩:=hr.side i hi
 obtain⟨l,l1,l2,l3⟩:=hg.next (a i) (hr.lt i hi) (hr.stay hs hi)
 have hst:=hg.stay (a i) (hr.lt i hi) (hr.stay hs hi)
 rcases Nat.lt_trichotomy j l with q|q|q
 ·have:=l3 j j1 q
  rw[j2] at this
  exact absurd this (hr.stay' hs (prI_le hi))
 ·rw[←l2,←q,j2]
 ·have h1:=j3 l l1 q
  rw[l2] at h1
  exact absurd (on_of (hg.pm.lt (hr.lt i hi)) hst).2 h1
theorem Rim.phi_out {i:Nat} (hi:i≤k):phiF g (a i ^^^ 1)=a (prI k i) ^^^ 1:=by unfold phiF;rw[xor_one_one];exact hr.turn hs hg hi
theorem Rim.phi_in {x:Nat} (hx:innerB n f k a x):innerB n f k a (phiF g x):=by
 obtain⟨h1,h2,h3⟩:=hx
 have h4:¬ offB n f k a (x ^^^ 1):=fun q=>h2 ((off_mate hs).1 q)
 have h5:=xor_one_lt hs.even h1
 refine⟨hg.pm.lt h5,hg.stay _ h5 h4,?_⟩
 rintro⟨i,hi,e⟩
 have e2:=hr.phi_out hs hg (nxI_le hi)
 rw[prI_nxI hi,←e] at e2
 exact h3 ⟨_,nxI_le hi,(hg.pm.phi hs.even).inj h1 (xor_one_lt hs.even (hr.lt _ (nxI_le hi))) e2.symm⟩
theorem Rim.head {x:Nat} (hx:innerB n f k a x):Go.Proofs.Ytgphnkkdmlohlaa.cyc n f (x ^^^ 1) (phiF g x):=by
 have h4:¬ offB n f k a (x ^^^ 1):=fun q=>hx.2.1 ((off_mate hs).1 q)
 have h5:=xor_one_lt hs.even hx.1
 obtain⟨j,_,e,_⟩:=hg.next _ h5 h4
 exact⟨h5,hg.pm.lt h5,j,e⟩
theorem Rim.inner_a {i:Nat} (hi:i≤k):innerB n f k a (a i):=⟨hr.lt i hi,hr.stay hs hi,hr.not_outer hs hi⟩
theorem Rim.phi_a {i j:Nat} (hi:i≤k) (hj:j≤k) (e:phiF g (a j)=a i):i=nxI k j:=by
 have h1:=hr.head hs hg (hr.inner_a hs hg hj)
 rw[e] at h1
 exact (hr.one _ _ (nxI_le hj) hi (hs.pm.per.trans (hr.at_next hs hj) h1)).symm
variable (hno : ∀ i, 0 < i → i < k → ∃ x, cyc n f (a i) x ∧ onB n f k a (x ^^^ 1) ∧ x ≠ a i ∧ x ≠ a (i - 1) ^^^ 1)
include hno
theorem Rim.step {j:Nat} (hj:j+1<k):chordB n f k a (phiF g (a j)):=by
 refine⟨hr.phi_in hs hg (hr.inner_a hs hg (by omega)),fun i hi e=>?_⟩
 have e1:=hr.phi_a hs hg hi (by omega) e
 have e2:i=j+1:=by rw[e1];unfold nxI;rw[if_neg (by omega)]
 subst e2
 obtain⟨x,x1,x2,x3,x4⟩:=hno (j+1) (by omega) hj
 rw[Nat.add_sub_cancel] at x4
 have hK:¬ offB n f k a x:=off_not ((hr.on hs hi).cyc hs x1) x2
 obtain⟨_,_,m,em⟩:=hg.cyc hs.pm (hr.stay hs hi) hK x1
 have t1:g (a (j+1))=a j ^^^ 1:=by rw[hr.turn hs hg hi];unfold prI;rw[if_neg (by omega),Nat.add_sub_cancel]
 have t2:g (a j ^^^ 1)=a (j+1):=e
 have:∀ m,itf g m (a (j+1))=a (j+1)∨itf g m (a (j+1))=a j ^^^ 1:=fun m=>by
  induction m with
  | zero=>exact Or.inl rfl
  | succ m ih=>
   rw[itf_succ]
   rcases ih with q|q
   ·rw[q,t1];exact Or.inr rfl
   ·rw[q,t2];exact Or.inl rfl
 rcases this m with q|q
 ·exact x3 (em.symm.trans q)
 ·exact x4 (em.symm.trans q)
theorem Rim.chord_a {x:Nat} (hx:innerB n f k a x) (hk:x≠a k) (hk':phiF g x≠a k) (hc:¬ chordB n f k a x):chordB n f k a (phiF g x):=by
 have:∃ j,j≤k∧x=a j:=Classical.byContradiction fun q=>hc ⟨hx,fun i hi e=>q ⟨i,hi,e⟩⟩
 obtain⟨j,hj,rfl⟩:=this
 have hjk:j≠k:=fun e=>hk (by rw[e])
 by_cases h1:j+1<k
 ·exact hr.step hs hg hno h1
 ·refine⟨hr.phi_in hs hg hx,fun i hi e=>?_⟩
  have e1:=hr.phi_a hs hg hi hj e
  have:i=k:=by rw[e1];unfold nxI;rw[if_neg hjk];omega
  exact hk' (by rw[e,this])
theorem Rim.two_chords {r:Nat} (hx:innerB n f k a r) (hk:∀ x,cyc n (phiF g) r x→x≠a k):
  (∃ c,cyc n (phiF g) r c∧chordB n f k a c)∧∀ c,cyc n (phiF g) r c→chordB n f k a c→∃ d,cyc n (phiF g) r d∧chordB n f k a d∧d≠c:=by
 have hphi:=hg.pm.phi hs.even
 refine⟨?_,fun c hc hcc=>?_⟩
 ·by_cases h1:chordB n f k a r
  ·exact⟨r,hphi.per.refl hx.1,h1⟩
  ·exact⟨_,hphi.step hx.1,hr.chord_a hs hg hno hx (hk _ (hphi.per.refl hx.1)) (hk _ (hphi.step hx.1)) h1⟩
 ·have hs1:=hphi.per.trans hc (hphi.step hc.2.1)
  have hi1:=hr.phi_in hs hg hcc.1
  have hh:=hr.head hs hg hcc.1
  by_cases h1:chordB n f k a (phiF g c)
  ·refine⟨_,hs1,h1,fun e=>?_⟩
   rw[e] at hh
   exact hs.loop _ hc.2.1 (hs.pm.per.symm hh)
  ·have hs2:=hphi.per.trans hs1 (hphi.step hi1.1)
   refine⟨_,hs2,hr.chord_a hs hg hno hi1 (hk _ hs1) (hk _ hs2) h1,fun e=>?_⟩
   have:∃ j,j≤k∧phiF g c=a j:=Classical.byContradiction fun q=>h1 ⟨hi1,fun i hi e=>q ⟨i,hi,e⟩⟩
   obtain⟨j,hj,ej⟩:=this
   have hh2:=hr.head hs hg hi1
   rw[e,ej] at hh2
   rw[ej] at hh
   have:=hs.dbl c (a j ^^^ 1) hc.2.1 (xor_one_lt hs.even (hr.lt j hj)) (hs.pm.per.symm hh2) (by rw[xor_one_one];exact hh)
   exact hcc.1.2.2 ⟨j,hj,this⟩
theorem Rim.one_chord:∃ c,cyc n (phiF g) (a k) c∧chordB n f k a c:=by
 have hphi:=hg.pm.phi hs.even
 have hi:=hr.inner_a hs hg (Nat.le_refl k)
 have hi1:=hr.phi_in hs hg hi
 by_cases h1:chordB n f k a (phiF g (a k))
 ·exact⟨_,hphi.step hi.1,h1⟩
 ·have:∃ j,j≤k∧phiF g (a k)=a j:=Classical.byContradiction fun q=>h1 ⟨hi1,fun i hi e=>q ⟨i,hi,e⟩⟩
  obtain⟨j,hj,ej⟩:=this
  have e0:=hr.phi_a hs hg hj (Nat.le_refl k) ej
  have e1:j=0:=by rw[e0];unfold nxI;rw[if_pos rfl]
  subst e1
  have:=hr.two
  refine⟨phiF g (a 0),?_,hr.step hs hg hno (by omega)⟩
  have h2:=hphi.per.trans (hphi.step hi.1) (hphi.step hi1.1)
  rw[ej] at h2
  exact h2
end
end
end Go.Proofs.Ytgphnkkdmlohlaa
