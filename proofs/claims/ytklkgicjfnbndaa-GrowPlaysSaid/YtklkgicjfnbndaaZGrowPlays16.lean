/- Rows of the call's own, of elements of several cells, in a registry; a row's last element taken. -/
import Derived.Test.YtklkgicjfnbndaaZGrowPlays14
import Derived.Test.YtklkgicjfnbndaaZGrowPlays12
import Derived.Deep.DeepCutAuto
import Derived.Deep.RegionHeld3
import Derived.Test.YtklkgicjfnbndaaZGrowPlays15
namespace Go.Proofs.Ytklkgicjfnbndaa
section
open Go.RowKit
set_option linter.unusedVariables false
def OwnV (R:Reg) (B:Nat) (E:TypeId) (sz:Nat) (w:World) (v:Value) (n:Nat) (xs:List Value):Prop:=
 w.ownsRow B E sz v n xs∧∀ k,v.ownBlock=some k→R k=none
theorem OwnV.nil (R:Reg) (B:Nat) (E:TypeId) (sz:Nat) (w:World):OwnV R B E sz w nilS 0 []:=⟨World.ownsRow_nil w B E sz,fun k h=>by simp[nilS,Value.ownBlock] at h⟩
theorem OwnV.mono {R:Reg} {B B':Nat} {E:TypeId} {sz:Nat} {w:World} {v:Value} {n:Nat} {xs:List Value} (h:OwnV R B E sz w v n xs) (hB:B'≤B):OwnV R B' E sz w v n xs:=by
 obtain⟨⟨h1,h2⟩,h3⟩:=h
 refine⟨⟨h1,?_⟩,h3⟩
 rcases h2 with h2|⟨g,cap,cur,hv,hg,r⟩
 ·exact Or.inl h2
 ·exact Or.inr ⟨g,cap,cur,hv,by omega,r⟩
theorem OwnV.ev {R R1:Reg} {B:Nat} {E:TypeId} {sz:Nat} {w w1:World} {v:Value} {n:Nat} {xs:List Value} (h:OwnV R B E sz w v n xs) (he:Ev R w R1 w1):OwnV R1 B E sz w1 v n xs:=by
 obtain⟨⟨h1,h2⟩,h3⟩:=h
 rcases h2 with h2|⟨g,cap,cur,hv,hg,hh,r⟩
 ·exact⟨⟨h1,Or.inl h2⟩,fun k hk=>by rw[h2.1] at hk;simp[Value.ownBlock] at hk⟩
 ·have hn:R g=none:=h3 g (by rw[hv];rfl)
  refine⟨⟨h1,Or.inr ⟨g,cap,cur,hv,hg,by rw[he.block g (lt_of_block hh) hn];exact hh,r⟩⟩,fun k hk=>?_⟩
  rw[hv] at hk
  cases hk
  exact he.free g (lt_of_block hh) hn
theorem OwnV.kept {R:Reg} {B:Nat} {E:TypeId} {sz:Nat} {w w1:World} {row:Option Nat} {v:Value} {n:Nat} {xs:List Value} (h:OwnV R B E sz w v n xs) (hg:w.grownBy w1 row) (hne:v.ownBlock=none∨v.ownBlock≠row):OwnV R B E sz w1 v n xs:=
 ⟨h.1.kept hg hne,h.2⟩
theorem OwnV.alloc {R:Reg} {B:Nat} {E:TypeId} {sz:Nat} {w:World} {v:Value} {n:Nat} {xs:List Value} (h:OwnV R B E sz w v n xs) (o:Obj):OwnV R B E sz (w.alloc o) v n xs:=⟨h.1.alloc o,h.2⟩
theorem OwnV.drew {R:Reg} {B:Nat} {E:TypeId} {sz:Nat} {w:World} {v:Value} {n:Nat} {xs:List Value} (h:OwnV R B E sz w v n xs):OwnV R B E sz w.drew v n xs:=h
theorem OwnV.lt {R:Reg} {B:Nat} {E:TypeId} {sz:Nat} {w:World} {v:Value} {n:Nat} {xs:List Value} (h:OwnV R B E sz w v n xs):∀ k,v.ownBlock=some k→B≤k∧k<w.heap.size:=h.1.lt
theorem OwnV.open {R:Reg} {B:Nat} {E:TypeId} {sz:Nat} {w:World} {v:Value} {n:Nat} {xs:List Value} (h:OwnV R B E sz w v n xs):
  ∃ a cap,v=.slice a n cap∧n≤cap∧cap≤maxLen∧(∀ i,i<xs.length→∃ g,a=some ⟨g,0,none⟩∧B≤g∧R g=none∧w.cell? ⟨g,i,none⟩=xs[i]?∧w.frozen? ⟨g,i,none⟩=false):=by
 obtain⟨⟨h1,h2⟩,h3⟩:=h
 rcases h2 with ⟨h2,hn⟩|⟨g,cap,cur,hv,hg,hh,hn,hm,hs,ht⟩
 ·refine⟨none,0,by rw[h2,hn],by omega,by simp[maxLen],fun i hi=>by rw[h1,hn] at hi;omega⟩
 ·refine⟨_,cap,hv,hn,hm,fun i hi=>⟨g,rfl,hg,h3 g (by rw[hv];rfl),?_,by simp[World.frozen?,hh]⟩⟩
  have hi':i<n*sz:=by rw[←h1];exact hi
  rw[←ht]
  simp[World.cell?,hh,hi']
theorem OwnV.headAt {R:Reg} {B:Nat} {E:TypeId} {sz:Nat} {w:World} {a:Option Addr} {n cap:Nat} {xs:List Value} (h:OwnV R B E sz w (.slice a n cap) n xs) {i:Nat} (hi:i<xs.length):
  ∃ g,a=some ⟨g,0,none⟩∧B≤g∧R g=none∧w.cell? ⟨g,i,none⟩=xs[i]?∧w.frozen? ⟨g,i,none⟩=false:=by
 obtain⟨a',cap',e,_,_,h⟩:=h.open
 cases e
 exact h i hi
theorem OwnV.put {R:Reg} {B:Nat} {E:TypeId} {sz:Nat} {w:World} {g n cap:Nat} {xs:List Value} (h:OwnV R B E sz w (.slice (some ⟨g,0,none⟩) n cap) n xs) (i:Nat) (u:Value):
  OwnV R B E sz (w.setCell ⟨g,i,none⟩ u) (.slice (some ⟨g,0,none⟩) n cap) n (xs.set i u):=⟨(h.1.stored i u).1,h.2⟩
section
variable {ops : Array Oper} {rest : List Oper} {o : Oper} {a : Act} {Q : Exit → Act → World → Prop}
theorem wpList_app_row {w:World} (t E sz bytes:Nat) (z:Value) (ht:Try.prog.underlying t=some (.slice E)) (hin:(Try.prog.info? E).map (fun i=>(i.zero,i.size,i.bytes))=some (some z,sz,bytes)) (hzs:z.cells.size=sz) (hsz:0<sz) (hby:bytes≤4096)
  (hgd:o.guard=none) (s x:Operand)
  (ho:o.op=.call { callee:=.builtin .append,args:=#[s,x],argTypes:=#[t,t] })
  {R:Reg} {B:Nat} {v:Value} {n:Nat} {xs:List Value} (hown:OwnV R B E sz w v n xs) (hs:a.eval s=v) (ad:Addr) (m c:Nat) (ys:List Value) (hm:ys.length=m*sz) (hx:a.eval x=.slice (some ad) m c)
  (hc:∀ j u,ys[j]?=some u→w.cell? (ad.add j)=some u) (h1:∀ u∈ys,u.oneCell'=true) (hn:n+m≤8388608) (hB:B≤w.heap.size) (hR:∀ k,w.heap.size≤k→R k=none)
  (h:∀ v' w',OwnV R B E sz w' v' (n+m) (xs ++ ys)→w.grownBy w' v.ownBlock→(∀ k,v'.ownBlock=some k→v.ownBlock=some k∨w.heap.size≤k)→wpList Try.prog ops Q rest (a.put o.dst v') w'):
  wpList Try.prog ops Q (o :: rest) a w:=by
 obtain⟨i0,hi,hz0,hz1,hz2⟩:=info_parts hin
 obtain⟨v',w',hr,h2,h3,h4⟩:=run_append_where (P:=Try.prog) w B t o.type E i0 z sz bytes ht hi hz0 hz1 hz2 hzs hsz v n _ hown.1 ad m c ys hm hc h1 (by unfold maxLen;omega)
  (Nat.le_trans (Nat.mul_le_mul hn hby) (by decide)) hB
 refine wpList_plain hgd fun K hK=>?_
 unfold Oper.wp execOp
 simp only[ho,resolve,invoke,builtin,Sem.run_bind,Sem.run_pure,Result.andThen_ok,List.map_toArray,List.map_cons,List.map_nil,hs,hx,hr]
 refine hK _ _ (h v' w' ⟨h2,?_⟩ h3 h4)
 intro k hk
 rcases h4 k hk with e|e
 ·exact hown.2 k e
 ·exact hR k e
end
theorem Ev.appV {R0 R:Reg} {w0 w w':World} {B sz:Nat} {E:TypeId} {v:Value} {n:Nat} {xs:List Value} (he:Ev R0 w0 R w) (hown:OwnV R B E sz w v n xs) (hB:w0.heap.size≤B) (hg:w.grownBy w' v.ownBlock):Ev R0 w0 R w':=
 he.grown hg fun k hk=>⟨by have:=hown.lt k hk;omega,hown.2 k hk⟩
theorem OwnI.pop {R:Reg} {B:Nat} {E:TypeId} {w:World} {a:Option Addr} {n cap:Nat} {xs:List Int} {y:Int} (h:OwnI R B E w (.slice a n cap) (xs ++ [y])):OwnI R B E w (.slice a (n-1) cap) xs:=by
 obtain⟨⟨h1,h2⟩,h3⟩:=h
 have hn0:n=xs.length+1:=by
  rcases h2 with ⟨h2,hn⟩|⟨g,cap',cur,hv,hg,hh,hn,r⟩
  ·simp at hn
  ·have e:n=(xs ++ [y]).length:=by injection hv
   rw[e];simp
 subst hn0
 rcases h2 with ⟨h2,hn⟩|⟨g,cap',cur,hv,hg,hh,hn,hm,hs,ht⟩
 ·simp at hn
 ·obtain⟨rfl,_,rfl⟩:a=some ⟨g,0,none⟩∧_∧cap=cap':=by injection hv with a b c;exact⟨a,b,c⟩
  refine⟨⟨by simp,Or.inr ⟨g,cap,cur,by rw[Nat.add_sub_cancel],hg,hh,by simp at hn;omega,hm,hs,?_⟩⟩,fun k hk=>h3 k hk⟩
  rw[Nat.mul_one]
  have:=congrArg (List.take xs.length) ht
  rw[List.take_take,Nat.min_eq_left (by simp),List.map_append,List.take_left' (by simp)] at this
  exact this
end
section
open Go.RowKit
set_option linter.unusedVariables false
end
end Go.Proofs.Ytklkgicjfnbndaa
