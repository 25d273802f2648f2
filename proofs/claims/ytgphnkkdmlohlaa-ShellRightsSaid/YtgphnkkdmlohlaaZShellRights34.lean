/- The shelling order of a triangulation has each vertex once. -/
import Derived.Test.YtgphnkkdmlohlaaZShellRights32
import Derived.Test.YtgphnkkdmlohlaaZShellRights23
namespace Go.Proofs.Ytgphnkkdmlohlaa
section
set_option linter.unusedVariables false
set_option linter.unusedSectionVars false
theorem nodup_le {V:Nat} {l:List Int} (hn:l.Nodup) (hb:∀ x,x∈l→0≤x∧x<V):l.length≤V:=by
 rcases Nat.lt_or_ge V l.length with k|k
 ·obtain⟨a,b,hab,hbV,e⟩:=pigeon V (fun i=>(nth l i).toNat) (fun i hi=>by
   have hi':i<l.length:=by omega
   have:nth l i∈l:=by unfold nth;rw[List.getD_eq_getElem?_getD,List.getElem?_eq_getElem hi'];exact List.getElem_mem hi'
   have:=hb _ this
   omega)
  have ha':a<l.length:=by omega
  have hb':b<l.length:=by omega
  have na:nth l a=l[a]:=by unfold nth;rw[List.getD_eq_getElem?_getD,List.getElem?_eq_getElem ha'];rfl
  have nb:nth l b=l[b]:=by unfold nth;rw[List.getD_eq_getElem?_getD,List.getElem?_eq_getElem hb'];rfl
  have m1:=hb _ (List.getElem_mem ha')
  have m2:=hb _ (List.getElem_mem hb')
  rw[na,nb] at e
  have:=nodup_idx hn ha' hb' (by omega)
  omega
 ·exact k
theorem nodup_ge {V:Nat} {l:List Int} (hb:∀ v:Nat,v<V→(v:Int)∈l):V≤l.length:=by
 have:∀ (V:Nat) (l:List Int),(∀ v:Nat,v<V→(v:Int)∈l)→V≤l.length:=by
  intro V
  induction V with
  | zero=>intro l _;omega
  | succ V ih=>
   intro l hb
   have hm:=hb V (by omega)
   have:=ih (l.erase (V:Int)) (fun v hv=>(List.mem_erase_of_ne (by omega)).2 (hb v (by omega)))
   rw[List.length_erase_of_mem hm] at this
   have:=List.length_pos_of_mem hm
   omega
 exact this V l hb
section
variable {s : List Nat} (h : TriS s) {r : Nat} (hr : r < s.length)
include h
theorem TriS.name {x:Nat} (hx:x<s.length):0≤nth (namesL s) x∧nth (namesL s) x<((sizesL s).length:Int):=by
 have ho:=namesL_ord h.perm
 have k1:=ho.bound hx
 have k2:=ho.mono (k:=x+1) (l:=s.length) (by omega) (Nat.le_refl _)
 have k3:(sizesL s).length=(namesGo s s.length).2:=by rw[←sizesGo_all,sizesGo_length h.perm _ (Nat.le_refl _)]
 omega
theorem TriS.named {v:Nat} (hv:v<(sizesL s).length):∃ x,x<s.length∧nth (namesL s) x=v:=by
 have ho:=namesL_ord h.perm
 have k3:(sizesL s).length=(namesGo s s.length).2:=by rw[←sizesGo_all,sizesGo_length h.perm _ (Nat.le_refl _)]
 obtain⟨j,hj,e,_⟩:=ho.has (Nat.le_refl s.length) v (by rw[k3] at hv;exact hv)
 exact⟨j,hj,e⟩
include hr
variable {A : List Nat} {out : List Int} (hR : ShRun s r A out)
include hR
theorem ShRun.ends:nth (namesL s) r∉out∧nth (namesL s) (at' (phiL s) r)∉out∧nth (namesL s) r≠nth (namesL s) (at' (phiL s) r):=by
 obtain⟨a,t,e1,e2⟩:=hR.head
 refine⟨?_,?_,?_⟩
 ·rw[←e2];exact (hR.mem h hr (by rw[e1];simp)).2
 ·rw[←hR.last];exact (hR.mem h hr (by simp)).2
 ·rw[←hR.last];exact h.loop r hr
theorem ShRun.nodup:(nth (namesL s) r :: nth (namesL s) (at' (phiL s) r) :: out.reverse).Nodup:=by
 obtain⟨h1,h2,h3⟩:=hR.ends h hr
 refine List.nodup_cons.2 ⟨?_,List.nodup_cons.2 ⟨by simpa using h2,?_⟩⟩
 ·simp only[List.mem_cons,List.mem_reverse,not_or]
  exact⟨h3,h1⟩
 ·exact List.pairwise_reverse.2 (List.Pairwise.imp (fun k=>Ne.symm k) hR.one)
theorem ShRun.names:∀ x,x∈nth (namesL s) r :: nth (namesL s) (at' (phiL s) r) :: out.reverse→0≤x∧x<((sizesL s).length:Int):=fun x hx=>by
 simp only[List.mem_cons,List.mem_reverse] at hx
 rcases hx with rfl|rfl|hx
 ·exact h.name hr
 ·exact h.name (h.phl hr)
 ·obtain⟨d,hd,rfl⟩:=hR.are x hx
  exact h.name hd
theorem ShRun.len:out.length+2≤(sizesL s).length:=by
 have:=nodup_le (hR.nodup h hr) (hR.names h hr)
 simpa using this
theorem ShRun.all (h1:A.length<2):out.length+2=(sizesL s).length∧∀ v:Nat,v<(sizesL s).length→(v:Int)∈nth (namesL s) r :: nth (namesL s) (at' (phiL s) r) :: out.reverse:=by
 have hall:∀ v:Nat,v<(sizesL s).length→(v:Int)∈nth (namesL s) r :: nth (namesL s) (at' (phiL s) r) :: out.reverse:=fun v hv=>by
  obtain⟨x,hx,e⟩:=h.named hv
  obtain⟨a,t,e1,e2⟩:=hR.head
  have:t=[]:=by
   rw[e1,List.length_cons] at h1
   exact List.eq_nil_of_length_eq_zero (by omega)
  subst this
  subst e1
  simp only[List.mem_cons,List.mem_reverse]
  rcases hR.shl.all h hx with k|k|k
  ·exact .inr (.inr (by rw[←e];exact k.2))
  ·exact .inl (by rw[←e,k,e2])
  ·exact .inr (.inl (by rw[←e,k,hR.last]))
 refine⟨?_,hall⟩
 have k1:=nodup_ge hall
 have k2:=hR.len h hr
 simp at k1
 omega
theorem ShRun.go:∀ f,(sizesL s).length≤out.length+f+2→∃ A' out',ShRun s r A' out'∧A'.length<2∧ordGo s (r ^^^ 1) f A out=out':=by
 intro f
 induction f generalizing A out with
 | zero=>
  intro hf
  rcases Nat.lt_or_ge A.length 2 with k|k
  ·exact⟨A,out,hR,k,rfl⟩
  ·have:=(hR.step h hr (hR.first h hr k).1).1.len h hr
   simp at this
   omega
 | succ f ih=>
  intro hf
  unfold ordGo
  rcases Nat.lt_or_ge A.length 2 with k|k
  ·rw[if_pos k]
   exact⟨A,out,hR,k,rfl⟩
  ·rw[if_neg (by omega)]
   exact ih (hR.step h hr (hR.first h hr k).1).1 (by simp;omega)
end
section
variable {s : List Nat} (h : TriS s) {r : Nat} (hr : r < s.length)
include h hr
theorem order_run:∃ A out,ShRun s r A out∧A.length<2∧orderL s r=nth (namesL s) r :: nth (namesL s) (at' (phiL s) r) :: out.reverse:=by
 have hle:(sizesL s).length≤s.length:=by
  rw[←sizesGo_all,sizesGo_length h.perm _ (Nat.le_refl _)]
  exact namesGo_count s _
 obtain⟨A,out,h1,h2,h3⟩:=(ShRun.start h hr).go h hr s.length (by omega)
 exact⟨A,out,h1,h2,by unfold orderL;rw[h3]⟩
theorem order_len:(orderL s r).length=(sizesL s).length:=by
 obtain⟨A,out,h1,h2,h3⟩:=order_run h hr
 rw[h3]
 have:=(h1.all h hr h2).1
 simp
 omega
def OrdTo (s:List Nat) (r:Nat) (A:List Nat) (out:List Int):Prop:=∃ f,(sizesL s).length≤out.length+f+2∧ordGo s (r ^^^ 1) f A out=ordGo s (r ^^^ 1) s.length (begA s r) []
theorem OrdTo.start:OrdTo s r (begA s r) []:=⟨s.length,by
 have hle:(sizesL s).length≤s.length:=by
  rw[←sizesGo_all,sizesGo_length h.perm _ (Nat.le_refl _)]
  exact namesGo_count s _
 omega,rfl⟩
theorem OrdTo.step {A:List Nat} {out:List Int} (ho:OrdTo s r A out) (hR:ShRun s r A out) (h2:2≤A.length) {i:Nat} (h1:FreeI' s (r ^^^ 1) A i) (h3:∀ l,l<i→¬ FreeI' s (r ^^^ 1) A l):OrdTo s r (cutA s A i) (out ++ [nth (namesL s) (A.getD i 0)]):=by
 obtain⟨f,k1,k2⟩:=ho
 have k3:=(hR.step h hr h1).1.len h hr
 simp only[List.length_append,List.length_singleton] at k3
 obtain⟨g,rfl⟩:∃ g,f=g+1:=⟨f-1,by omega⟩
 refine⟨g,by simp;omega,?_⟩
 rw[←k2]
 conv=>rhs;unfold ordGo
 rw[if_neg (by omega),firstI_eq h1 h3]
theorem OrdTo.done {A:List Nat} {out:List Int} (ho:OrdTo s r A out) (h2:A.length<2):orderL s r=nth (namesL s) r :: nth (namesL s) (at' (phiL s) r) :: out.reverse:=by
 obtain⟨f,_,k2⟩:=ho
 unfold orderL
 rw[←k2]
 cases f with
 | zero=>rfl
 | succ f=>unfold ordGo;rw[if_pos h2]
end
end
section
set_option linter.unusedVariables false
set_option linter.unusedSectionVars false
theorem nth_at {l:List Int} {i:Nat} (h:i<l.length):nth l i=l[i]:=by unfold nth;rw[List.getD_eq_getElem?_getD,List.getElem?_eq_getElem h];rfl
def Place (L:List Int) (pl:Int→Nat):Prop:=∀ i,i<L.length→pl (nth L i)=i
section
variable {s : List Nat} (h : TriS s) {r : Nat} (hr : r < s.length) {A : List Nat} {out : List Int} (hR : ShRun s r A out) (h2 : A.length < 2)
 {pl:Int→Nat} (hp:Place (nth (namesL s) r :: nth (namesL s) (at' (phiL s) r) :: out.reverse) pl)
include h hr hR h2 hp
end
end
section
set_option linter.unusedVariables false
set_option linter.unusedSectionVars false
theorem tally_perm {n:Nat} {f:Nat→Nat} (h:Pm n f) (p:Nat→Prop):tally (fun x=>p (f x)) n=tally p n:=by
 refine Nat.le_antisymm (tally_inj f (fun x hx q=>⟨h.lt hx,q⟩) (fun x y hx hy _ _ e=>h.inj hx hy e)) ?_
 classical
 have hp:∀ x,x<n→∃ a,a<n∧f a=x:=fun x hx=>h.pre hx
 refine tally_inj (fun x=>if q:x<n then Classical.choose (hp x q) else 0) (fun x hx q=>?_) (fun x y hx hy _ _ e=>?_)
 ·simp only[dif_pos hx]
  obtain⟨k1,k2⟩:=Classical.choose_spec (hp x hx)
  exact⟨k1,by rw[k2];exact q⟩
 ·simp only[dif_pos hx,dif_pos hy] at e
  rw[←(Classical.choose_spec (hp x hx)).2,←(Classical.choose_spec (hp y hy)).2,e]
section
variable {s : List Nat} (h : TriS s)
include h
end
end
section
set_option linter.unusedVariables false
set_option linter.unusedSectionVars false
section
variable {s : List Nat} (h : TriS s) {r : Nat} (hr : r < s.length) {pl : Int → Nat} (hp : Place (orderL s r) pl)
include h hr hp
end
end
section
set_option linter.unusedVariables false
set_option linter.unusedSectionVars false
theorem ordGo_pre (s:List Nat) (c:Nat):∀ f A out,∃ t,ordGo s c f A out=out ++ t
 | 0,_,out=>⟨[],by simp[ordGo]⟩
 | f+1,A,out=>by
  unfold ordGo
  split
  ·exact⟨[],by simp⟩
  ·obtain⟨t,e⟩:=ordGo_pre s c f (cutA s A (firstI s c A)) (out ++ [nth (namesL s) (A.getD (firstI s c A) 0)])
   exact⟨_,by rw[e,List.append_assoc]⟩
section
variable {s : List Nat} (h : TriS s) {r : Nat} (hr : r < s.length)
include h hr
theorem order_last:nth (orderL s r) ((sizesL s).length-1)=nth (namesL s) (at' (phiL s) (at' (phiL s) r)):=by
 have hS:=ShRun.start h hr
 obtain⟨hf,_⟩:=hS.first h hr (by show 2≤2;omega)
 have f1:firstI s (r ^^^ 1) (begA s r)=1:=by
  have a:=hf.1
  have b:firstI s (r ^^^ 1) (begA s r)<2:=hf.2.1
  omega
 have hn:=begA_names h hr
 simp only[begA,List.cons_append,List.nil_append,List.map_cons,List.map_nil,List.cons.injEq,and_true] at hn
 obtain⟨g,hg⟩:∃ g,s.length=g+1:=⟨s.length-1,by omega⟩
 obtain⟨t,ht⟩:=ordGo_pre s (r ^^^ 1) g (cutA s (begA s r) 1) ([] ++ [nth (namesL s) ((begA s r).getD 1 0)])
 have e:orderL s r=nth (namesL s) r :: nth (namesL s) (at' (phiL s) r) :: (nth (namesL s) (at' (phiL s) (at' (phiL s) r)) :: t).reverse:=by
  unfold orderL
  rw[hg]
  unfold ordGo
  rw[if_neg (by show ¬ 2<2;omega),f1,ht]
  have:(begA s r).getD 1 0=at' (phiL s) r ^^^ 1:=rfl
  rw[this,hn.2.1]
  rfl
 have hl:=order_len h hr
 rw[←hl,e]
 have:nth (namesL s) r :: nth (namesL s) (at' (phiL s) r) :: (nth (namesL s) (at' (phiL s) (at' (phiL s) r)) :: t).reverse=(nth (namesL s) r :: nth (namesL s) (at' (phiL s) r) :: t.reverse) ++ [nth (namesL s) (at' (phiL s) (at' (phiL s) r))]:=by simp
 rw[this]
 unfold nth
 rw[List.getD_eq_getElem?_getD,List.getElem?_append_right (by simp)]
 simp
variable {pl : Int → Nat} (hp : Place (orderL s r) pl)
include hp
def Ahd (s:List Nat) (pl:Int→Nat) (x:Nat):Prop:=pl (nth (namesL s) (x ^^^ 1))<pl (nth (namesL s) x)
structure RunAt (s:List Nat) (pl:Int→Nat) (v:Int) (q u j J:Nat):Prop where
 ql:q<s.length
 ul:u<s.length
 qv:nth (namesL s) q=v
 uv:nth (namesL s) u=v
 ne:q≠u
 j0:0<j
 qu:itf (at' s) j q=u
 uq:itf (at' s) J u=q
 one:∀ l,l<J→itf (at' s) l u≠q
 no:∀ l,0<l→l<j→¬ Ahd s pl (itf (at' s) l q)
 yes:∀ l,l≤J→Ahd s pl (itf (at' s) l u)
end
section
variable {s : List Nat} (h : TriS s) {pl : Int → Nat} {v : Int} {q u j J : Nat} (hk : RunAt s pl v q u j J)
include h hk
end
end
section
set_option linter.unusedVariables false
set_option linter.unusedSectionVars false
section
variable {s : List Nat} (h : TriS s) {r : Nat} (hr : r < s.length) {pl : Int → Nat} (hp : Place (orderL s r) pl)
include h hr hp
end
end
section
set_option linter.unusedVariables false
set_option linter.unusedSectionVars false
section
variable {s : List Nat} (h : TriS s) {r : Nat} (hr : r < s.length) {pl : Int → Nat} (hp : Place (orderL s r) pl)
include h hr
include hp
end
end
section
set_option linter.unusedVariables false
set_option linter.unusedSectionVars false
def PlTo (P L:List Int) (V i:Nat):Prop:=P.length=V∧∀ j,j<i→nth P (nth L j).toNat=(j:Int)
section
variable {s : List Nat} (h : TriS s) {r : Nat} (hr : r < s.length) {P : List Int} (hP : PlTo P (orderL s r) (sizesL s).length (sizesL s).length)
include h hr hP
end
end
section
open Go.RowKit
set_option linter.unusedVariables false
section
variable {a : Act} {ops : Array Oper} {Q : Exit → Act → World → Prop} {o : Oper} {rest : List Oper}
end
end
section
open Go.RowKit
set_option linter.unusedVariables false
section
variable {ops : Array Oper} {rest : List Oper} {o : Oper} {a : Act} {Q : Exit → Act → World → Prop}
end
end
section
open Go.RowKit
set_option linter.unusedVariables false
theorem le_alloc (w:World) (o:Obj):w.heap.size≤(w.alloc o).heap.size:=by simp
structure Trio (R:Reg) (w0:World) (b1 b2 bo:Nat) (w:World) (v4 v5 vc:Value) (Bl Gl Cl:List Int):Prop where
 ev:Ev R w0 R w
 bd:OwnI R b2 3 w v4 Bl
 gn:OwnI R b2 3 w v5 Gl
 co:OwnI R b1 3 w vc Cl
 l4:∀ k,v4.ownBlock=some k→k<bo
 l5:∀ k,v5.ownBlock=some k→k<bo
 lc:∀ k,vc.ownBlock=some k→k<bo
 sz:bo≤w.heap.size
section
variable {R : Reg} {w0 : World} {b1 b2 bo : Nat} {w : World} {v4 v5 vc : Value} {Bl Gl Cl : List Int} (h : Trio R w0 b1 b2 bo w v4 v5 vc Bl Gl Cl)
include h
end
end
end Go.Proofs.Ytgphnkkdmlohlaa
