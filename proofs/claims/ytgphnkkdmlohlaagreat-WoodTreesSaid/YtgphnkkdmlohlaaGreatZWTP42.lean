/- shell.Right: whether a list is a shelling order. -/
import Derived.Test.YtgphnkkdmlohlaaGreatZWTP39
import Derived.Test.YtgphnkkdmlohlaaGreatZWTP30
import Derived.Test.YtgphnkkdmlohlaaGreatZWTP29
import Derived.Test.YtgphnkkdmlohlaaGreatZWTP08
import Derived.Test.YtgphnkkdmlohlaaGreatZWTP37
namespace Go.Proofs.YtgphnkkdmlohlaaGreat
section
open Go.RowKit
set_option linter.unusedVariables false
set_option linter.unusedSimpArgs false
end
section
set_option linter.unusedVariables false
set_option linter.unusedSectionVars false
theorem cntD_tally {f:Nat→Bool} {n:Nat}:∀ {T:List Nat},T.Nodup→(∀ x,x∈T→x<n)→cntD f T=tally (fun x=>x∈T∧f x=true) n
 | [],_,_=>by rw[tally_none fun k _ q=>by simp at q];rfl
 | a :: T,hn,hb=>by
  obtain⟨h1,h2⟩:=List.nodup_cons.1 hn
  have ih:=cntD_tally (f:=f) h2 (fun x hx=>hb x (List.mem_cons_of_mem _ hx))
  unfold cntD at ih ⊢
  by_cases q:f a=true
  ·rw[List.filter_cons_of_pos q,List.length_cons,ih,tally_but (p:=fun x=>x∈a :: T∧f x=true) (a:=a) (hb a List.mem_cons_self) ⟨List.mem_cons_self,q⟩]
   congr 1
   refine tally_congr fun x _=>⟨fun k=>⟨⟨List.mem_cons_of_mem _ k.1,k.2⟩,fun e=>h1 (by rw[←e];exact k.1)⟩,fun k=>⟨?_,k.1.2⟩⟩
   rcases List.mem_cons.1 k.1.1 with e|e
   ·exact absurd e k.2
   ·exact e
  ·rw[List.filter_cons_of_neg q,ih]
   refine tally_congr fun x _=>⟨fun k=>⟨List.mem_cons_of_mem _ k.1,k.2⟩,fun k=>⟨?_,k.2⟩⟩
   rcases List.mem_cons.1 k.1 with e|e
   ·exact absurd (by rw[←e];exact k.2) q
   ·exact e
section
variable {s : List Nat} (h : TriS s)
include h
theorem cnt_at {f:Nat→Bool} {d:Nat} (hd:d<s.length):cntD f (orbitL s d)=tally (fun x=>nth (namesL s) x=nth (namesL s) d∧f x=true) s.length:=by
 rw[cntD_tally (orbitL_nodup h.perm hd) (fun x hx=>orbitL_lt h.perm hd x hx)]
 refine tally_congr fun x hx=>?_
 rw[names_orbit h.perm hd]
 exact⟨fun k=>⟨k.1.2,k.2⟩,fun k=>⟨⟨hx,k.1⟩,k.2⟩⟩
variable {r : Nat} (hr : r < s.length)
include hr
end
end
section
set_option linter.unusedVariables false
set_option linter.unusedSectionVars false
open Classical in
noncomputable def parZ (s:List Nat) (r:Nat) (pl:Int→Nat) (c v:Int):Int:=if k:∃ b,ParR s r pl c v b then Classical.choose k else -1
def muZ (V:Nat) (pl:Int→Nat) (c v:Int):Nat:=if c=0 then V-1-pl v else pl v
noncomputable def pathF (s:List Nat) (r:Nat) (pl:Int→Nat) (c:Int):Nat→Int→List Int
 | 0,_=>[]
 | f+1,v=>v :: if parZ s r pl c v=-1 then [] else pathF s r pl c f (parZ s r pl c v)
def cornC (s:List Nat) (r:Nat) (c:Int):Int:=if c=0 then nth (namesL s) (at' (phiL s) (at' (phiL s) r)) else if c=1 then nth (namesL s) r else nth (namesL s) (at' (phiL s) r)
def IsV (s:List Nat) (v:Int):Prop:=∃ x,x<s.length∧nth (namesL s) x=v
section
variable {s : List Nat} (h : TriS s) {r : Nat} (hr : r < s.length) {pl : Int → Nat} (hp : Place (orderL s r) pl)
include h hr hp
theorem parZ_yes {c v b:Int} (h0:0≤c) (h2:c≤2) (k:ParR s r pl c v b):parZ s r pl c v=b:=by
 have e:∃ b,ParR s r pl c v b:=⟨b,k⟩
 have:parZ s r pl c v=Classical.choose e:=dif_pos e
 rw[this]
 exact ParR.uniq h hr hp h0 h2 (Classical.choose_spec e) k
theorem parZ_no {c v:Int} (k:∀ b,¬ ParR s r pl c v b):parZ s r pl c v=-1:=dif_neg fun ⟨b,q⟩=>k b q
theorem ParR.isV {c v b:Int} (k:ParR s r pl c v b):IsV s v∧IsV s b:=by
 obtain⟨d,d1,d2,_,d4⟩:=k
 exact⟨⟨d,d1,d2⟩,⟨_,xor_one_lt h.even d1,d4⟩⟩
theorem IsV.nat {v:Int} (k:IsV s v):0≤v∧v<((sizesL s).length:Int)∧pl v<(sizesL s).length:=by
 obtain⟨x,hx,e⟩:=k
 have:=h.name hx
 rw[e] at this
 refine⟨this.1,this.2,?_⟩
 rw[←e]
 exact (place_of h hr hp hx).1
theorem parZ_iff {c v:Int} (h0:0≤c) (h2:c≤2):parZ s r pl c v=-1↔∀ b,¬ ParR s r pl c v b:=by
 constructor
 ·intro e b k
  rw[parZ_yes h hr hp h0 h2 k] at e
  have:=(IsV.nat h hr hp (ParR.isV h hr hp k).2).1
  omega
 ·exact parZ_no h hr hp
theorem parZ_par {c v:Int} (h0:0≤c) (h2:c≤2) (k:parZ s r pl c v≠-1):ParR s r pl c v (parZ s r pl c v):=by
 have:∃ b,ParR s r pl c v b:=Classical.byContradiction fun q=>k (parZ_no h hr hp fun b w=>q ⟨b,w⟩)
 obtain⟨b,w⟩:=this
 rw[parZ_yes h hr hp h0 h2 w]
 exact w
theorem ParR.less {c v b:Int} (h0:0≤c) (h2:c≤2) (k:ParR s r pl c v b):muZ (sizesL s).length pl c b<muZ (sizesL s).length pl c v:=by
 obtain⟨k1,k2⟩:=ParR.isV h hr hp k
 have e1:=(IsV.nat h hr hp k1).2.2
 have e2:=(IsV.nat h hr hp k2).2.2
 unfold muZ
 by_cases q:c=0
 ·rw[if_pos q,if_pos q]
  subst q
  have:=ParR.up h hr hp k
  omega
 ·rw[if_neg q,if_neg q]
  exact ParR.down h hr hp (by omega) k
theorem mem_pathF {c:Int} (h0:0≤c) (h2:c≤2) {u:Int}:∀ (f:Nat) (v:Int),muZ (sizesL s).length pl c v<f→(u∈pathF s r pl c f v↔OnP s r pl c v u)
 | 0,_,k=>absurd k (Nat.not_lt_zero _)
 | f+1,v,k1=>by
  unfold pathF
  by_cases q:parZ s r pl c v=-1
  ·rw[if_pos q,List.mem_singleton]
   constructor
   ·intro e;rw[e];exact .here v
   ·intro e
    cases e with
    | here=>rfl
    | on k _=>exact absurd k ((parZ_iff h hr hp h0 h2).1 q _)
  ·rw[if_neg q,List.mem_cons]
   have kp:=parZ_par h hr hp h0 h2 q
   have:=ParR.less h hr hp h0 h2 kp
   rw[mem_pathF h0 h2 f _ (by omega)]
   constructor
   ·rintro (e|e)
    ·rw[e];exact .here v
    ·exact .on kp e
   ·intro e
    exact OnP.next h hr hp h0 h2 e kp
theorem pathF_mu {c:Int} (h0:0≤c) (h2:c≤2):∀ (f:Nat) (v:Int),muZ (sizesL s).length pl c v<f→(pathF s r pl c f v).Pairwise (fun a b=>muZ (sizesL s).length pl c b<muZ (sizesL s).length pl c a)∧∀ u,u∈pathF s r pl c f v→muZ (sizesL s).length pl c u≤muZ (sizesL s).length pl c v
 | 0,_,k=>absurd k (Nat.not_lt_zero _)
 | f+1,v,k1=>by
  unfold pathF
  by_cases q:parZ s r pl c v=-1
  ·rw[if_pos q]
   exact⟨List.pairwise_singleton _ _,fun u hu=>by rw[List.mem_singleton.1 hu];exact Nat.le_refl _⟩
  ·rw[if_neg q]
   have kp:=parZ_par h hr hp h0 h2 q
   have l:=ParR.less h hr hp h0 h2 kp
   obtain⟨i1,i2⟩:=pathF_mu h0 h2 f _ (show muZ (sizesL s).length pl c (parZ s r pl c v)<f by omega)
   refine⟨List.pairwise_cons.2 ⟨fun u hu=>?_,i1⟩,fun u hu=>?_⟩
   ·have:=i2 u hu;omega
   ·rcases List.mem_cons.1 hu with e|e
    ·rw[e];exact Nat.le_refl _
    ·have:=i2 u e;omega
theorem pathF_nodup {c:Int} (h0:0≤c) (h2:c≤2) {f:Nat} {v:Int} (k:muZ (sizesL s).length pl c v<f):(pathF s r pl c f v).Nodup:=
 (pathF_mu h hr hp h0 h2 f v k).1.imp fun q e=>by rw[e] at q;omega
theorem pathF_len {c:Int} (h0:0≤c) (h2:c≤2):∀ (f:Nat) (v:Int),muZ (sizesL s).length pl c v<f→(pathF s r pl c f v).length≤muZ (sizesL s).length pl c v+1
 | 0,_,k=>absurd k (Nat.not_lt_zero _)
 | f+1,v,k1=>by
  unfold pathF
  by_cases q:parZ s r pl c v=-1
  ·rw[if_pos q];simp
  ·rw[if_neg q]
   have kp:=parZ_par h hr hp h0 h2 q
   have l:=ParR.less h hr hp h0 h2 kp
   have:=pathF_len h0 h2 f _ (show muZ (sizesL s).length pl c (parZ s r pl c v)<f by omega)
   rw[List.length_cons]
   omega
theorem par_some {x:Nat} (hx:x<s.length) (hc:cornZ s r x=false) {c:Int} (h0:0≤c) (h2:c≤2):∃ b,ParR s r pl c (nth (namesL s) x) b:=by
 obtain⟨d,d1,d2,d3,_⟩:=col_unique h hr hp hx hc h0 h2
 exact⟨_,d,d1,d2,d3,rfl⟩
theorem par_none {x:Nat} (hx:x<s.length) (hc:cornZ s r x=true) {c:Int} (h0:0≤c) (b:Int):¬ ParR s r pl c (nth (namesL s) x) b:=by
 rintro⟨d,d1,d2,d3,_⟩
 have:=col_corner h hr hp d1 (by unfold cornZ at hc ⊢;rw[d2];exact hc)
 omega
theorem par_corner {c a:Int} (h0:0≤c) (h2:c≤2) {x:Nat} (hx:x<s.length) (hc:cornZ s r x=true) (k:ParR s r pl c a (nth (namesL s) x)):nth (namesL s) x=cornC s r c:=by
 obtain⟨d,d1,d2,d3,d4⟩:=k
 have hm:=xor_one_lt h.even d1
 have hc2:cornZ s r (d ^^^ 1)=true:=by unfold cornZ at hc ⊢;rw[d4];exact hc
 have ho:outZ s r (d ^^^ 1)=false:=by
  cases e:outZ s r (d ^^^ 1)
  ·rfl
  ·rw[outZ_mate] at e
   rw[col_outer h hr hp e] at d3
   omega
 have:=(corner_in h hr hp hm hc2 ho).2
 rw[xor_one_one,d3,d4] at this
 have b0:=h.loop r hr
 have dist:nth (namesL s) r≠nth (namesL s) (at' (phiL s) (at' (phiL s) r)):=fun e=>by
  have p0:=plc_first h hr hp
  have p2:=plc_last h hr hp
  have:=h.big
  rw[e] at p0
  omega
 unfold cornC
 by_cases q2:nth (namesL s) x=nth (namesL s) (at' (phiL s) (at' (phiL s) r))
 ·rw[if_pos q2] at this
  rw[if_pos this,q2]
 ·rw[if_neg q2] at this
  by_cases q0:nth (namesL s) x=nth (namesL s) r
  ·rw[if_pos q0] at this
   rw[if_neg (by omega),if_pos this,q0]
  ·rw[if_neg q0] at this
   rw[if_neg (by omega),if_neg (by omega)]
   unfold cornZ at hc
   simp only[Bool.or_eq_true,beq_iff_eq] at hc
   rcases hc with (k|k)|k
   ·exact absurd k q0
   ·exact k
   ·exact absurd k q2
theorem pathF_last {c:Int} (h0:0≤c) (h2:c≤2):∀ (f:Nat) (v:Int),IsV s v→muZ (sizesL s).length pl c v<f→(pathF s r pl c f v).getLast?=some (if parZ s r pl c v=-1 then v else cornC s r c)
 | 0,_,_,k=>absurd k (Nat.not_lt_zero _)
 | f+1,v,hv,k1=>by
  unfold pathF
  by_cases q:parZ s r pl c v=-1
  ·rw[if_pos q,if_pos q];rfl
  ·rw[if_neg q,if_neg q]
   have kp:=parZ_par h hr hp h0 h2 q
   have l:=ParR.less h hr hp h0 h2 kp
   have vb:=(ParR.isV h hr hp kp).2
   have i:=pathF_last h0 h2 f _ vb (show muZ (sizesL s).length pl c (parZ s r pl c v)<f by omega)
   rw[List.getLast?_cons,i]
   by_cases q2:parZ s r pl c (parZ s r pl c v)=-1
   ·rw[if_pos q2]
    obtain⟨x,hx,e⟩:=vb
    rw[←e] at q2 kp ⊢
    have hc:cornZ s r x=true:=by
     cases z:cornZ s r x
     ·obtain⟨b,kb⟩:=par_some h hr hp hx z h0 h2
      exact absurd kb ((parZ_iff h hr hp h0 h2).1 q2 b)
     ·rfl
    rw[par_corner h hr hp h0 h2 hx hc kp]
    rfl
   ·rw[if_neg q2];rfl
end
end
end Go.Proofs.YtgphnkkdmlohlaaGreat
