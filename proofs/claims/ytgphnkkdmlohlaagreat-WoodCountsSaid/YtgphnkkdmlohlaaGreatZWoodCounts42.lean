/- shell.Right: whether a list is a shelling order. -/
import Derived.Test.YtgphnkkdmlohlaaGreatZWoodCounts39
import Derived.Test.YtgphnkkdmlohlaaGreatZWoodCounts30
import Derived.Test.YtgphnkkdmlohlaaGreatZWoodCounts29
import Derived.Test.YtgphnkkdmlohlaaGreatZWoodCounts08
import Derived.Test.YtgphnkkdmlohlaaGreatZWoodCounts37
namespace Go.Proofs.YtgphnkkdmlohlaaGreat
section
open Go.RowKit
set_option linter.unusedVariables false
set_option linter.unusedSimpArgs false
end
section
set_option linter.unusedVariables false
set_option linter.unusedSectionVars false
theorem cntD_tally {f:Nat→Bool} {n:Nat}:∀ {T:List Nat},T.Nodup→(∀ x,x∈T→x<n)→cntD f T=tally (fun x=>x∈T∧f x=true) n
 | [],_,_=>by rw[tally_none fun k _ q=>by simp at q];rfl
 | a :: T,hn,hb=>by
  obtain⟨h1,h2⟩:=List.nodup_cons.1 hn
  have ih:=cntD_tally (f:=f) h2 (fun x hx=>hb x (List.mem_cons_of_mem _ hx))
  unfold cntD at ih ⊢
  by_cases q:f a=true
  ·rw[List.filter_cons_of_pos q,List.length_cons,ih,tally_but (p:=fun x=>x∈a :: T∧f x=true) (a:=a) (hb a List.mem_cons_self) ⟨List.mem_cons_self,q⟩]
   congr 1
   refine tally_congr fun x _=>⟨fun k=>⟨⟨List.mem_cons_of_mem _ k.1,k.2⟩,fun e=>h1 (by rw[←e];exact k.1)⟩,fun k=>⟨?_,k.1.2⟩⟩
   rcases List.mem_cons.1 k.1.1 with e|e
   ·exact absurd e k.2
   ·exact e
  ·rw[List.filter_cons_of_neg q,ih]
   refine tally_congr fun x _=>⟨fun k=>⟨List.mem_cons_of_mem _ k.1,k.2⟩,fun k=>⟨?_,k.2⟩⟩
   rcases List.mem_cons.1 k.1 with e|e
   ·exact absurd (by rw[←e];exact k.2) q
   ·exact e
section
variable {s : List Nat} (h : TriS s)
include h
theorem cnt_at {f:Nat→Bool} {d:Nat} (hd:d<s.length):cntD f (orbitL s d)=tally (fun x=>nth (namesL s) x=nth (namesL s) d∧f x=true) s.length:=by
 rw[cntD_tally (orbitL_nodup h.perm hd) (fun x hx=>orbitL_lt h.perm hd x hx)]
 refine tally_congr fun x hx=>?_
 rw[names_orbit h.perm hd]
 exact⟨fun k=>⟨k.1.2,k.2⟩,fun k=>⟨⟨hx,k.1⟩,k.2⟩⟩
variable {r : Nat} (hr : r < s.length)
include hr
end
end
section
set_option linter.unusedVariables false
set_option linter.unusedSectionVars false
open Classical in
noncomputable def parZ (s:List Nat) (r:Nat) (pl:Int→Nat) (c v:Int):Int:=if k:∃ b,ParR s r pl c v b then Classical.choose k else -1
def IsV (s:List Nat) (v:Int):Prop:=∃ x,x<s.length∧nth (namesL s) x=v
section
variable {s : List Nat} (h : TriS s) {r : Nat} (hr : r < s.length) {pl : Int → Nat} (hp : Place (orderL s r) pl)
include h hr hp
theorem parZ_yes {c v b:Int} (h0:0≤c) (h2:c≤2) (k:ParR s r pl c v b):parZ s r pl c v=b:=by
 have e:∃ b,ParR s r pl c v b:=⟨b,k⟩
 have:parZ s r pl c v=Classical.choose e:=dif_pos e
 rw[this]
 exact ParR.uniq h hr hp h0 h2 (Classical.choose_spec e) k
theorem parZ_no {c v:Int} (k:∀ b,¬ ParR s r pl c v b):parZ s r pl c v=-1:=dif_neg fun ⟨b,q⟩=>k b q
theorem ParR.isV {c v b:Int} (k:ParR s r pl c v b):IsV s v∧IsV s b:=by
 obtain⟨d,d1,d2,_,d4⟩:=k
 exact⟨⟨d,d1,d2⟩,⟨_,xor_one_lt h.even d1,d4⟩⟩
theorem IsV.nat {v:Int} (k:IsV s v):0≤v∧v<((sizesL s).length:Int)∧pl v<(sizesL s).length:=by
 obtain⟨x,hx,e⟩:=k
 have:=h.name hx
 rw[e] at this
 refine⟨this.1,this.2,?_⟩
 rw[←e]
 exact (place_of h hr hp hx).1
theorem par_some {x:Nat} (hx:x<s.length) (hc:cornZ s r x=false) {c:Int} (h0:0≤c) (h2:c≤2):∃ b,ParR s r pl c (nth (namesL s) x) b:=by
 obtain⟨d,d1,d2,d3,_⟩:=col_unique h hr hp hx hc h0 h2
 exact⟨_,d,d1,d2,d3,rfl⟩
theorem par_none {x:Nat} (hx:x<s.length) (hc:cornZ s r x=true) {c:Int} (h0:0≤c) (b:Int):¬ ParR s r pl c (nth (namesL s) x) b:=by
 rintro⟨d,d1,d2,d3,_⟩
 have:=col_corner h hr hp d1 (by unfold cornZ at hc ⊢;rw[d2];exact hc)
 omega
end
end
end Go.Proofs.YtgphnkkdmlohlaaGreat
