/- Rows of the call's own, of elements of several cells, in a registry; a row's last element taken. -/
import Derived.Test.YtgphnkkdmlohlaaGreatDoorZWoodNo14
import Derived.Test.YtgphnkkdmlohlaaGreatDoorZWoodNo12
import Derived.Deep.DeepCutAuto
import Derived.Deep.RegionHeld3
import Derived.Test.YtgphnkkdmlohlaaGreatDoorZWoodNo06
import Derived.BigRegion
namespace Go.Proofs.YtgphnkkdmlohlaaGreatDoor
section
open Go.RowKit
set_option linter.unusedVariables false
def OwnV (R:Reg) (B:Nat) (E:TypeId) (sz:Nat) (w:World) (v:Value) (n:Nat) (xs:List Value):Prop:=
 w.ownsRow B E sz v n xs∧∀ k,v.ownBlock=some k→R k=none
theorem OwnV.nil (R:Reg) (B:Nat) (E:TypeId) (sz:Nat) (w:World):OwnV R B E sz w nilS 0 []:=⟨World.ownsRow_nil w B E sz,fun k h=>by simp[nilS,Value.ownBlock] at h⟩
theorem OwnV.mono {R:Reg} {B B':Nat} {E:TypeId} {sz:Nat} {w:World} {v:Value} {n:Nat} {xs:List Value} (h:OwnV R B E sz w v n xs) (hB:B'≤B):OwnV R B' E sz w v n xs:=by
 obtain⟨⟨h1,h2⟩,h3⟩:=h
 refine⟨⟨h1,?_⟩,h3⟩
 rcases h2 with h2|⟨g,cap,cur,hv,hg,r⟩
 ·exact Or.inl h2
 ·exact Or.inr ⟨g,cap,cur,hv,by omega,r⟩
theorem OwnV.ev {R R1:Reg} {B:Nat} {E:TypeId} {sz:Nat} {w w1:World} {v:Value} {n:Nat} {xs:List Value} (h:OwnV R B E sz w v n xs) (he:Ev R w R1 w1):OwnV R1 B E sz w1 v n xs:=by
 obtain⟨⟨h1,h2⟩,h3⟩:=h
 rcases h2 with h2|⟨g,cap,cur,hv,hg,hh,r⟩
 ·exact⟨⟨h1,Or.inl h2⟩,fun k hk=>by rw[h2.1] at hk;simp[Value.ownBlock] at hk⟩
 ·have hn:R g=none:=h3 g (by rw[hv];rfl)
  refine⟨⟨h1,Or.inr ⟨g,cap,cur,hv,hg,by rw[he.block g (lt_of_block hh) hn];exact hh,r⟩⟩,fun k hk=>?_⟩
  rw[hv] at hk
  cases hk
  exact he.free g (lt_of_block hh) hn
theorem OwnV.kept {R:Reg} {B:Nat} {E:TypeId} {sz:Nat} {w w1:World} {row:Option Nat} {v:Value} {n:Nat} {xs:List Value} (h:OwnV R B E sz w v n xs) (hg:w.grownBy w1 row) (hne:v.ownBlock=none∨v.ownBlock≠row):OwnV R B E sz w1 v n xs:=
 ⟨h.1.kept hg hne,h.2⟩
theorem OwnV.alloc {R:Reg} {B:Nat} {E:TypeId} {sz:Nat} {w:World} {v:Value} {n:Nat} {xs:List Value} (h:OwnV R B E sz w v n xs) (o:Obj):OwnV R B E sz (w.alloc o) v n xs:=⟨h.1.alloc o,h.2⟩
theorem OwnV.drew {R:Reg} {B:Nat} {E:TypeId} {sz:Nat} {w:World} {v:Value} {n:Nat} {xs:List Value} (h:OwnV R B E sz w v n xs):OwnV R B E sz w.drew v n xs:=h
theorem OwnV.lt {R:Reg} {B:Nat} {E:TypeId} {sz:Nat} {w:World} {v:Value} {n:Nat} {xs:List Value} (h:OwnV R B E sz w v n xs):∀ k,v.ownBlock=some k→B≤k∧k<w.heap.size:=h.1.lt
theorem OwnV.setCell {R:Reg} {B:Nat} {E:TypeId} {sz:Nat} {w:World} {v:Value} {n:Nat} {xs:List Value} (h:OwnV R B E sz w v n xs) {a:Addr} (ha:v.ownBlock≠some a.block) (u:Value):OwnV R B E sz (w.setCell a u) v n xs:=by
 obtain⟨⟨h1,h2⟩,h3⟩:=h
 refine⟨⟨h1,?_⟩,h3⟩
 rcases h2 with h2|⟨g,cap,cur,hv,hg,hh,r⟩
 ·exact Or.inl h2
 ·refine Or.inr ⟨g,cap,cur,hv,hg,?_,r⟩
  rw[Below.heap_setCell _ _ _ _ (fun e=>ha (by rw[hv,←e];rfl))]
  exact hh
theorem OwnV.open {R:Reg} {B:Nat} {E:TypeId} {sz:Nat} {w:World} {v:Value} {n:Nat} {xs:List Value} (h:OwnV R B E sz w v n xs):
  ∃ a cap,v=.slice a n cap∧n≤cap∧cap≤maxLen∧(∀ i,i<xs.length→∃ g,a=some ⟨g,0,none⟩∧B≤g∧R g=none∧w.cell? ⟨g,i,none⟩=xs[i]?∧w.frozen? ⟨g,i,none⟩=false):=by
 obtain⟨⟨h1,h2⟩,h3⟩:=h
 rcases h2 with ⟨h2,hn⟩|⟨g,cap,cur,hv,hg,hh,hn,hm,hs,ht⟩
 ·refine⟨none,0,by rw[h2,hn],by omega,by simp[maxLen],fun i hi=>by rw[h1,hn] at hi;omega⟩
 ·refine⟨_,cap,hv,hn,hm,fun i hi=>⟨g,rfl,hg,h3 g (by rw[hv];rfl),?_,by simp[World.frozen?,hh]⟩⟩
  have hi':i<n*sz:=by rw[←h1];exact hi
  rw[←ht]
  simp[World.cell?,hh,hi']
theorem OwnV.headAt {R:Reg} {B:Nat} {E:TypeId} {sz:Nat} {w:World} {a:Option Addr} {n cap:Nat} {xs:List Value} (h:OwnV R B E sz w (.slice a n cap) n xs) {i:Nat} (hi:i<xs.length):
  ∃ g,a=some ⟨g,0,none⟩∧B≤g∧R g=none∧w.cell? ⟨g,i,none⟩=xs[i]?∧w.frozen? ⟨g,i,none⟩=false:=by
 obtain⟨a',cap',e,_,_,h⟩:=h.open
 cases e
 exact h i hi
theorem OwnV.put {R:Reg} {B:Nat} {E:TypeId} {sz:Nat} {w:World} {g n cap:Nat} {xs:List Value} (h:OwnV R B E sz w (.slice (some ⟨g,0,none⟩) n cap) n xs) (i:Nat) (u:Value):
  OwnV R B E sz (w.setCell ⟨g,i,none⟩ u) (.slice (some ⟨g,0,none⟩) n cap) n (xs.set i u):=⟨(h.1.stored i u).1,h.2⟩
section
variable {ops : Array Oper} {rest : List Oper} {o : Oper} {a : Act} {Q : Exit → Act → World → Prop}
theorem wpList_app_row {w:World} (t E sz bytes:Nat) (z:Value) (ht:Tryz.prog.underlying t=some (.slice E)) (hin:(Tryz.prog.info? E).map (fun i=>(i.zero,i.size,i.bytes))=some (some z,sz,bytes)) (hzs:z.cells.size=sz) (hsz:0<sz) (hby:bytes≤4096)
  (hgd:o.guard=none) (s x:Operand)
  (ho:o.op=.call { callee:=.builtin .append,args:=#[s,x],argTypes:=#[t,t] })
  {R:Reg} {B:Nat} {v:Value} {n:Nat} {xs:List Value} (hown:OwnV R B E sz w v n xs) (hs:a.eval s=v) (ad:Addr) (m c:Nat) (ys:List Value) (hm:ys.length=m*sz) (hx:a.eval x=.slice (some ad) m c)
  (hc:∀ j u,ys[j]?=some u→w.cell? (ad.add j)=some u) (h1:∀ u∈ys,u.oneCell'=true) (hn:n+m≤8388608) (hB:B≤w.heap.size) (hR:∀ k,w.heap.size≤k→R k=none)
  (h:∀ v' w',OwnV R B E sz w' v' (n+m) (xs ++ ys)→w.grownBy w' v.ownBlock→(∀ k,v'.ownBlock=some k→v.ownBlock=some k∨w.heap.size≤k)→wpList Tryz.prog ops Q rest (a.put o.dst v') w'):
  wpList Tryz.prog ops Q (o :: rest) a w:=by
 obtain⟨i0,hi,hz0,hz1,hz2⟩:=info_parts hin
 obtain⟨v',w',hr,h2,h3,h4⟩:=run_append_where (P:=Tryz.prog) w B t o.type E i0 z sz bytes ht hi hz0 hz1 hz2 hzs hsz v n _ hown.1 ad m c ys hm hc h1 (by unfold maxLen;omega)
  (Nat.le_trans (Nat.mul_le_mul hn hby) (by decide)) hB
 refine wpList_plain hgd fun K hK=>?_
 unfold Oper.wp execOp
 simp only[ho,resolve,invoke,builtin,Sem.run_bind,Sem.run_pure,Result.andThen_ok,List.map_toArray,List.map_cons,List.map_nil,hs,hx,hr]
 refine hK _ _ (h v' w' ⟨h2,?_⟩ h3 h4)
 intro k hk
 rcases h4 k hk with e|e
 ·exact hown.2 k e
 ·exact hR k e
end
theorem Ev.appV {R0 R:Reg} {w0 w w':World} {B sz:Nat} {E:TypeId} {v:Value} {n:Nat} {xs:List Value} (he:Ev R0 w0 R w) (hown:OwnV R B E sz w v n xs) (hB:w0.heap.size≤B) (hg:w.grownBy w' v.ownBlock):Ev R0 w0 R w':=
 he.grown hg fun k hk=>⟨by have:=hown.lt k hk;omega,hown.2 k hk⟩
theorem OwnI.pop {R:Reg} {B:Nat} {E:TypeId} {w:World} {a:Option Addr} {n cap:Nat} {xs:List Int} {y:Int} (h:OwnI R B E w (.slice a n cap) (xs ++ [y])):OwnI R B E w (.slice a (n-1) cap) xs:=by
 obtain⟨⟨h1,h2⟩,h3⟩:=h
 have hn0:n=xs.length+1:=by
  rcases h2 with ⟨h2,hn⟩|⟨g,cap',cur,hv,hg,hh,hn,r⟩
  ·simp at hn
  ·have e:n=(xs ++ [y]).length:=by injection hv
   rw[e];simp
 subst hn0
 rcases h2 with ⟨h2,hn⟩|⟨g,cap',cur,hv,hg,hh,hn,hm,hs,ht⟩
 ·simp at hn
 ·obtain⟨rfl,_,rfl⟩:a=some ⟨g,0,none⟩∧_∧cap=cap':=by injection hv with a b c;exact⟨a,b,c⟩
  refine⟨⟨by simp,Or.inr ⟨g,cap,cur,by rw[Nat.add_sub_cancel],hg,hh,by simp at hn;omega,hm,hs,?_⟩⟩,fun k hk=>h3 k hk⟩
  rw[Nat.mul_one]
  have:=congrArg (List.take xs.length) ht
  rw[List.take_take,Nat.min_eq_left (by simp),List.map_append,List.take_left' (by simp)] at this
  exact this
theorem last_any (w:World) (a:Option Addr) (n cap:Nat) (xs:List Int) (y:Int) (hv:Ints w (.slice a n cap) (xs ++ [y])) (hn:n≤4194304):
  Calls Tryz.prog 136 #[.slice a n cap] w fun e w'=>e=.returned (.tuple #[.int .i64 y,.slice a (n-1) cap])∧∃ q,w'=w.drewN q:=by
 have hn0:n=xs.length+1:=by rw[hv.length_eq];simp
 obtain⟨b,off,rfl,hc⟩:=hv.cell (i:=xs.length) (by simp)
 have hcap:xs.length+1≤cap:=by
  obtain⟨a',cap',e,h,_⟩:=hv
  cases e
  simp at h
  omega
 have hnth:nth (xs ++ [y]) xs.length=y:=by simp[nth]
 rw[hnth] at hc
 subst hn0
 clear hv hnth
 rw[Nat.add_sub_cancel]
 generalize hl:xs.length=m at *
 clear hl
 go_enter Tryz.func136,Tryz.ntmps136
 go_wp2_with fail
 go_region
 all_goals go_wp2
 all_goals go_ret2
 all_goals exact⟨rfl,_,rfl⟩
end
section
open Go.RowKit
set_option linter.unusedVariables false
theorem OwnI.single {R:Reg} {w:World} (hI:Inv R w) (B:Nat) (hB:B≤w.heap.size) (y:Int):
  OwnI R B 3 (w.alloc (.cells #[.int .i64 y] 3)) (.slice (some ⟨w.heap.size,0,none⟩) 1 1) [y]:=by
 refine⟨⟨rfl,Or.inr ⟨w.heap.size,1,#[.int .i64 y],rfl,hB,heap_alloc_new w _,Nat.le_refl _,by simp[maxLen],rfl,rfl⟩⟩,fun k hk=>?_⟩
 cases hk
 exact hI.none_of_ge (Nat.le_refl _)
theorem dgo_cons (s:List Nat) (c:Int) (g:Nat) (N:List Int) (x:Nat) (r:List Nat):dgo s c (g+1) (N,x :: r)=dgo s c g (dpush c (dpush c (N,r) (at' s x)) (x ^^^ 1)):=rfl
theorem dgo_nil (s:List Nat) (c:Int) (g:Nat) (N:List Int):dgo s c g (N,[])=N:=by cases g <;> rfl
theorem toI_rev_cons (x:Nat) (r:List Nat):toI (x :: r).reverse=toI r.reverse ++ [(x:Int)]:=by rw[List.reverse_cons,toI_append]
def Waits (R:Reg) (w wr:World) (n:Nat) (v:Value) (N:List Int) (stk:List Nat):Prop:=
 Ev R w R wr∧N.length=n∧OwnI R w.heap.size 3 wr (.slice (some ⟨w.heap.size,0,none⟩) n n) N∧∃ a cap,v=.slice a stk.length cap∧OwnI R (w.heap.size+1) 3 wr (.slice a stk.length cap) (toI stk.reverse)
set_option maxRecDepth 100000 in
set_option maxHeartbeats 4000000 in
theorem enames_any (R:Reg) (w:World) (hI:Inv R w) (p:Value) (s:List Nat) (root lone:Int) (hp:MapAt R p s root lone):
  Calls Tryz.prog 128 #[p] w (RetOwn R w (partsL s)):=by
 obtain⟨hS,hok⟩:=hp.ok hI
 have he2:s.length % 2=0:=hok.1
 have hn:s.length≤131073:=hok.2.1
 have hD:=darts_any R w hI p s root lone hp
 have hSg:=fun w' (he:Ev R w R w') (x:Nat) (hx:x<s.length)=>sigma_any R w' he.inv p s root lone (he.map hp) x
 have hMt:=fun w' (he:Ev R w R w') (x:Nat) (hx:x<s.length)=>mate_any R w' he.inv p s root lone (he.map hp) x
 obtain⟨n,hl⟩:∃ n,s.length=n:=⟨_,rfl⟩
 have HSg:Hid (∀ w',Ev R w R w'→∀ x:Nat,x<n→Calls Tryz.prog 46 #[p,.int .i64 (x:Int)] w' fun e w1=>e=.returned (.int .i64 ((at' s x:Nat):Int))∧w'=w1):=Lib.hid (fun w' he x hx=>by
  have:=hSg w' he x (by omega)
  rwa [atI_in (by omega)] at this)
 have HMt:Hid (∀ w',Ev R w R w'→∀ x:Nat,x<n→Calls Tryz.prog 47 #[p,.int .i64 (x:Int)] w' fun e w1=>e=.returned (.int .i64 ((x ^^^ 1:Nat):Int))∧w'=w1):=Lib.hid (fun w' he x hx=>by
  have:=hMt w' he x (by omega)
  rwa [mateI_in (by omega)] at this)
 have HPI:=Lib.hid (fun k (hk:k≤s.length)=>partsGo_inv hS he2 k hk)
 have HXL:=Lib.hid (fun x (hx:x<n)=>xor_one_lt (n:=n) (by omega) hx)
 have HSL:=Lib.hid (fun x (hx:x<n)=>(by have:=hS.lt (i:=x) (by omega);omega:at' s x<n))
 have HPL:=Lib.hid (partsL_length hS he2)
 have HCn:=Lib.hid (fun k (hk:k≤s.length)=>(partsL_ord hS he2).cnt_le hk)
 have HS:=Lib.hid hS
 have HEv:=Lib.hid he2
 have HL:=Lib.hid hl
 rw[hl] at hD he2 hn
 have HD:=Lib.hid hD
 have HI:=Lib.hid hI
 obtain⟨i0,hi,hz0,hz1,hz2⟩:=info_parts int_info
 clear hI hS hl hp hok hSg hMt hD
 go_enter Tryz.func128,Tryz.ntmps128
 go_wp2_with (first|(go_at_call 36;refine HD.out.mono ?_;rintro e w' ⟨rfl,rfl⟩)|(refine wpList_make_full _ rfl _ _ 25 rfl w.heap.size 3 i0 (.int .i64 0) 1 Tryz.underlying25 hi hz0 hz1 .i64 .i64 (n:Int) (n:Int) n rfl rfl rfl rfl ?q1 ?q2 (Nat.le_refl _) ?_))
 case q1=>rw[hz2];omega
 case q2=>unfold maxLen;omega
 intro w1 ho1 hg1
 have hown:OwnI R w.heap.size 3 w1 (.slice (some ⟨w.heap.size,0,none⟩) n n) (List.replicate 0 (-1) ++ List.replicate (n-0) 0):=by
  simpa using OwnI.made HI.out ho1
 have he1:Ev R w R w1:=(Ev.refl HI.out).grown hg1 (by simp)
 have HO1:=Lib.hid hown
 have HE1:=Lib.hid he1
 clear ho1 hg1 hown he1
 go_wp2_with fail
 go_loopg [17] n (fun g v14 wr=>∃ k:Nat,k≤n∧n-k≤g∧v14=.int .i64 (k:Int)∧Ev R w R wr∧OwnI R w.heap.size 3 wr (.slice (some ⟨w.heap.size,0,none⟩) n n) (List.replicate k (-1) ++ List.replicate (n-k) 0))
 case atStart=>exact⟨0,Nat.zero_le _,by omega,rfl,HE1.out,HO1.out⟩
 case round=>
  obtain⟨k,hk,hg,rfl,he,ho⟩:=hrel
  have hlen:(List.replicate k (-1:Int) ++ List.replicate (n-k) 0).length=n:=by simp;omega
  have HLE:=Lib.hid hlen
  have HE:=Lib.hid he
  have HO:=Lib.hid ho
  clear he ho hlen
  by_cases hkn:k<n
  ·obtain⟨gb,cap',e1,hgb,hgn,hc,hz⟩:=HO.out.head (i:=k) (by rw[HLE.out];exact hkn)
   rw[HLE.out] at e1
   cases e1
   have hst2:=HO.out.put HLE.out k hkn (-1)
   rw[rep_set hkn] at hst2
   have HST:=Lib.hid hst2
   clear hst2
   go_wp2_with fail
   go_roundg (n-(k+1))
   case measure=>omega
   case rel=>exact⟨k+1,by omega,by omega,by go_num,HE.out.setCell (Nat.le_refl _) hgn _,HST.out⟩
  ·obtain rfl:k=n:=by omega
   have ho2:OwnI R w.heap.size 3 wr (.slice (some ⟨w.heap.size,0,none⟩) k k) (partsGo s 0).1:=by
    have:=HO.out
    rw[partsGo_zero,HL.out]
    simpa using this
   have HO2:=Lib.hid ho2
   have HE2:=HE
   clear ho2
   go_wp2_with fail
   obtain⟨wo,hwo⟩:∃ wo:World,wo=wr:=⟨_,rfl⟩
   subst hwo
   obtain⟨n,hnk⟩:∃ n,n=k:=⟨_,rfl⟩
   subst hnk
   clear HO HO1 HE HE1 hk hg hkn HLE
   go_loopg [5,26] n (fun g v5 v26 wr=>∃ k:Nat,k≤n∧n-k≤g∧v5=.int .i64 (((partsGo s k).2:Nat):Int)∧v26=.int .i64 (k:Int)∧Ev R w R wr∧OwnI R w.heap.size 3 wr (.slice (some ⟨w.heap.size,0,none⟩) n n) (partsGo s k).1)
   case atStart=>exact⟨0,Nat.zero_le _,by omega,rfl,rfl,HE2.out,HO2.out⟩
   case round=>
    obtain⟨k,hk,hg,rfl,rfl,he,ho⟩:=hrel
    have HE:=Lib.hid he
    have HO:=Lib.hid ho
    clear he ho
    have hpi:=HPI.out k (by rw[HL.out];exact hk)
    have hlen:(partsGo s k).1.length=n:=by rw[hpi.len,HL.out]
    have HN:=Lib.hid (partsGo_succ s k)
    obtain⟨N,c,hNC⟩:∃ N C,partsGo s k=(N,C):=⟨_,_,rfl⟩
    rw[hNC] at HO HN hlen hpi ⊢
    simp only at HO hlen hpi ⊢
    have HNC:=Lib.hid hNC
    have HLN:=Lib.hid hlen
    have HPI0:=Lib.hid hpi
    clear hNC hlen hpi
    by_cases hkn:k<n
    ·obtain⟨gb,cap',e1,hgb,hgn,hc,hz⟩:=HO.out.head (i:=k) (by rw[HLN.out];exact hkn)
     rw[HLN.out] at e1
     cases e1
     by_cases hold:0≤nth N k
     ·go_wp2_with fail
      go_roundg (n-(k+1))
      case measure=>omega
      case rel=>
       have e2:partsGo s (k+1)=(N,c):=by rw[HN.out];unfold partStep;rw[if_pos hold]
       exact⟨k+1,by omega,by omega,by rw[e2],by go_num,HE.out,by rw[e2];exact HO.out⟩
     ·have e2:partsGo s (k+1)=(dgo s c (2*n+1) (N.set k c,[k]),c+1):=by rw[HN.out];unfold partStep;rw[if_neg hold,HL.out]
      have HE2:=Lib.hid e2
      have HDI:=Lib.hid (HPI0.out.first HS.out (by rw[HL.out];exact hkn) hold)
      have hcb:c≤n:=by
       have:=HCn.out k (by rw[HL.out];omega)
       have e:(partsGo s k).2=c:=by rw[HNC.out]
       have e2:(partsGo s k).2≤k:=this
       omega
      clear e2
      have hwz:w.heap.size+1≤wr.heap.size:=by
       have:=HO.out.lt w.heap.size rfl
       omega
      have hwz':w.heap.size<wr.heap.size:=hwz
      have hset:=(HO.out.put HLN.out k hkn (c:Int))
      have hevs:=HE.out.setCell (p:=⟨w.heap.size,k,none⟩) (Nat.le_refl _) hgn (.int .i64 (c:Int))
      have hon:=hset.alloc (.cells #[.int .i64 (k:Int)] 3)
      have hev:=hevs.alloc (.cells #[.int .i64 (k:Int)] 3)
      have how:=OwnI.single hevs.inv (w.heap.size+1) (by simp;omega) (k:Int)
      rw[World.size_setCell] at how
      clear hset hevs
      have HW0:=Lib.hid (show Waits R w _ n (.slice (some ⟨wr.heap.size,0,none⟩) 1 1) (N.set k (c:Int)) [k] from⟨hev,by rw[List.length_set];exact HLN.out,hon,_,_,rfl,how⟩)
      clear how hon hev
      go_wp2_with fail
      obtain⟨M,hM⟩:∃ M,dgo s c (2*n+1) (N.set k c,[k])=M:=⟨_,rfl⟩
      rw[hM] at HE2
      have HM:=Lib.hid hM
      rw[HL.out] at HDI
      clear hM hc hz
      obtain⟨wq,hwq⟩:∃ wq:World,wq=wr:=⟨_,rfl⟩
      subst hwq
      go_loopg [7] (2*n+1) (fun g v7 wq=>∃ (N':List Int) (stk:List Nat),Waits R w wq n v7 N' stk∧DInv s k c N (fun _=>False) N' stk g∧dgo s c g (N',stk)=M∧g≤2*n+1)
      case atStart=>exact⟨_,_,HW0.out,HDI.out,HM.out,Nat.le_refl _⟩
      case round=>
       obtain⟨N',stk,hw,hd,hm,hgb⟩:=hrel
       have HD1:=Lib.hid hd
       have HM1:=Lib.hid hm
       clear hd hm
       cases stk with
       | nil=>
        have HW:=Lib.hid hw
        clear hw
        obtain⟨_,_,_,a,cap,rfl,_⟩:=HW.out
        go_wp2_with fail
        go_roundg (n-(k+1))
        case measure=>omega
        case rel=>
         have e3:N'=M:=by have:=HM1.out;rwa [dgo_nil] at this
         exact⟨k+1,by omega,by omega,by rw[HE2.out];go_num,by go_num,HW.out.1,by rw[HE2.out,←e3];exact HW.out.2.2.1⟩
       | cons x r=>
        have hlen:=HD1.out.fuel
        rw[List.length_cons] at hlen
        obtain⟨g',rfl⟩:∃ g',gk=g'+1:=⟨gk-1,by omega⟩
        have hrl:r.length≤2*n:=by omega
        have hx:x<n:=by have:=(HD1.out.wait x List.mem_cons_self).1;rw[HL.out] at this;exact this
        have HD2:=Lib.hid (DInv.pop HS.out HEv.out HPI0.out HD1.out)
        have hM2:=HM1.out
        rw[dgo_cons] at hM2
        have HM2:=Lib.hid hM2
        obtain⟨hev,hln,hon,a,cap,rfl,how⟩:=hw
        rw[List.length_cons] at how ⊢
        rw[toI_rev_cons] at how
        have hlast:=last_any wr a (r.length+1) cap (toI r.reverse) (x:Int) how.ints (by omega)
        have hpop:=how.pop
        rw[Nat.add_sub_cancel] at hlast hpop
        have HLast:=Lib.hid hlast
        have HW1:=Lib.hid (fun q=>(⟨hev.drewN q,hln,hon,a,cap,rfl,hpop⟩:Waits R w (wr.drewN q) n (.slice a r.length cap) N' r))
        clear hlast hev hln hon how hpop hlen hM2
        go_wp2_with fail
        refine HLast.out.mono ?_
        rintro e w2 ⟨rfl,q,rfl⟩
        have HW2:=Lib.hid (HW1.out q)
        obtain⟨w2,hw2⟩:∃ w2,wr.drewN q=w2:=⟨_,rfl⟩
        rw[hw2] at HW2 ⊢
        clear hw2 HW1 HLast
        have hy1:=HSL.out x hx
        have hy2:=HXL.out x hx
        have C1:=Lib.hid (HSg.out w2 HW2.out.1 x hx)
        have C2:=Lib.hid (HMt.out w2 HW2.out.1 x hx)
        obtain⟨y1,hy1e⟩:∃ y,at' s x=y:=⟨_,rfl⟩
        obtain⟨y2,hy2e⟩:∃ y,x ^^^ 1=y:=⟨_,rfl⟩
        rw[hy1e] at hy1 C1 HD2 HM2
        rw[hy2e] at hy2 C2 HD2 HM2
        clear hy1e hy2e
        go_wp2_with fail
        refine C1.out.mono ?_
        rintro e w' ⟨rfl,rfl⟩
        go_wp2_with fail
        refine C2.out.mono ?_
        rintro e w' ⟨rfl,rfl⟩
        go_wp2_with fail
        obtain⟨N1,st1,hp1⟩:∃ A B,dpush (c:Int) (N',r) y1=(A,B):=⟨_,_,rfl⟩
        obtain⟨N2,st2,hp2⟩:∃ A B,dpush (c:Int) (N1,st1) y2=(A,B):=⟨_,_,rfl⟩
        rw[hp1,hp2] at HD2 HM2
        have HP1:=Lib.hid hp1
        have HP2:=Lib.hid hp2
        clear hp1 hp2
        have hb1:st1.length≤r.length+1:=by
         have:=HP1.out
         unfold dpush at this
         split at this <;> (injection this with a b;rw[←b];simp)
        have hb2:st2.length≤st1.length+1:=by
         have:=HP2.out
         unfold dpush at this
         split at this <;> (injection this with a b;rw[←b];simp)
        have ix0:∀ w,(Instr.index 153 (.agg #[.int .i64 (y1:Int),.int .i64 (y2:Int)]) (.int .i64 0)).run Tryz.prog w=.ok (.int .i64 (y1:Int)) w:=fun _=>by kernel_rfl
        have ix1:∀ w,(Instr.index 153 (.agg #[.int .i64 (y1:Int),.int .i64 (y2:Int)]) (.int .i64 1)).run Tryz.prog w=.ok (.int .i64 (y2:Int)) w:=fun _=>by kernel_rfl
        go_loopg [7,56] 2 (fun g v7 v56 wx=>∃ (i:Nat) (A:List Int) (B:List Nat),i≤2∧2-i≤g∧Waits R w wx n v7 A B∧((i=0∧v56=.int .i64 0∧A=N'∧B=r)∨(i=1∧v56=.int .i64 1∧A=N1∧B=st1)∨(i=2∧v56=.int .i64 2∧A=N2∧B=st2)))
        case atStart=>exact⟨0,N',r,by omega,by omega,HW2.out,by simp⟩
        case round=>
         obtain⟨i,A,B,hi,hg,hw,hst⟩:=hrel
         have hBl:B.length≤2*n+2:=by rcases hst with ⟨_,_,_,rfl⟩|⟨_,_,_,rfl⟩|⟨_,_,_,rfl⟩ <;> omega
         rcases hst with ⟨rfl,rfl,hA,hB⟩|⟨rfl,rfl,hA,hB⟩|⟨rfl,rfl,hA,hB⟩
         ·have HPa:Hid (dpush (c:Int) (A,B) y1=(N1,st1)):=Lib.hid (by rw[hA,hB];exact HP1.out)
          clear hA hB
          have HWt:=Lib.hid hw
          clear hw
          obtain⟨hev,hln,hon,aw,cw,rfl,how⟩:=HWt.out
          have HEW:=Lib.hid hev
          have HLW:=Lib.hid hln
          have HON:=Lib.hid hon
          have HOW:=Lib.hid how
          have hwz:w.heap.size<wr.heap.size:=by have:=HON.out.lt w.heap.size rfl;omega
          have hgn:R w.heap.size=none:=HI.out.none_of_ge (Nat.le_refl _)
          clear hev hln hon how
          obtain⟨gb,e1,_,_,hc,hz⟩:=HON.out.headAt HLW.out (i:=y1) hy1
          cases e1
          by_cases hneg:nth A y1<0
          ·have e3:dpush (c:Int) (A,B) y1=(A.set y1 (c:Int),y1 :: B):=by unfold dpush;rw[if_pos hneg]
           have HE3:=Lib.hid (e3.symm.trans HPa.out)
           clear e3
           have hon2:=(HON.out.put HLW.out y1 hy1 (c:Int)).alloc (.cells #[.int .i64 (y1:Int)] 3)
           have how2:=(HOW.out.setCell (a:=⟨w.heap.size,y1,none⟩) (fun e=>Nat.not_succ_le_self _ (HOW.out.lt _ e).1) (.int .i64 (c:Int))).alloc (.cells #[.int .i64 (y1:Int)] 3)
           have hev2:=(HEW.out.setCell (p:=⟨w.heap.size,y1,none⟩) (Nat.le_refl _) hgn (.int .i64 (c:Int))).alloc (.cells #[.int .i64 (y1:Int)] 3)
           have HON2:=Lib.hid hon2
           have HOW2:=Lib.hid how2
           have HEW2:=Lib.hid hev2
           have HB2:=Lib.hid (show w.heap.size+1≤((wr.setCell ⟨w.heap.size,y1,none⟩ (.int .i64 (c:Int))).alloc (.cells #[.int .i64 (y1:Int)] 3)).heap.size by simp;omega)
           have HL2:=Lib.hid (show (toI B.reverse).length≤8388607 by rw[toI_length,List.length_reverse];omega)
           clear hon2 how2 hev2
           go_wp2_with (at_builtin;refine wpList_app_int (R:=R) (B:=w.heap.size+1) rfl _ _ rfl HOW2.out rfl ⟨wr.heap.size,0,none⟩ 1 (y1:Int) rfl ?h0a ?h0b ?h0c ?h0d ?_)
           case h0b=>exact HL2.out
           case h0c=>have:=HB2.out;first|exact this|(simp at this ⊢;omega)
           case h0d=>exact fun q hq=>HEW2.out.inv.none_of_ge (by simp at hq ⊢;omega)
           intro v' w5 ho5 hg5 hs5
           have HE5:=Lib.hid (HEW2.out.app HOW2.out (by omega) hg5)
           have HN5:=Lib.hid (HON2.out.kept hg5 (Or.inr (fun e=>by have:=(HOW2.out.lt _ e.symm).1;simp at this;omega)))
           have HO5:=Lib.hid ho5
           clear ho5 hg5 hs5
           go_wp2_with fail
           go_roundg (2-(0+1))
           case measure=>omega
           case rel=>
            have e5:A.set y1 (c:Int)=N1∧y1 :: B=st1:=by have:=HE3.out;injection this with a b;exact⟨a,b⟩
            have ho6:=HO5.out
            rw[←toI_rev_cons,e5.2] at ho6
            obtain⟨a6,c6,e6,_⟩:=ho6.ints.open
            rw[toI_length,List.length_reverse] at e6
            subst e6
            exact⟨0+1,N1,st1,by omega,by omega,⟨HE5.out,by rw[←e5.1,List.length_set];exact HLW.out,by rw[←e5.1];exact HN5.out,_,_,rfl,ho6⟩,by simp⟩
          ·have e3:dpush (c:Int) (A,B) y1=(A,B):=by unfold dpush;rw[if_neg hneg]
           have HE3:=Lib.hid (e3.symm.trans HPa.out)
           clear e3
           go_wp2_with fail
           go_roundg (2-(0+1))
           case measure=>omega
           case rel=>
            have e5:A=N1∧B=st1:=by have:=HE3.out;injection this with a b;exact⟨a,b⟩
            exact⟨0+1,N1,st1,by omega,by omega,by rw[←e5.1,←e5.2];exact HWt.out,by simp⟩
         ·have HPa:Hid (dpush (c:Int) (A,B) y2=(N2,st2)):=Lib.hid (by rw[hA,hB];exact HP2.out)
          clear hA hB
          have HWt:=Lib.hid hw
          clear hw
          obtain⟨hev,hln,hon,aw,cw,rfl,how⟩:=HWt.out
          have HEW:=Lib.hid hev
          have HLW:=Lib.hid hln
          have HON:=Lib.hid hon
          have HOW:=Lib.hid how
          have hwz:w.heap.size<wr.heap.size:=by have:=HON.out.lt w.heap.size rfl;omega
          have hgn:R w.heap.size=none:=HI.out.none_of_ge (Nat.le_refl _)
          clear hev hln hon how
          obtain⟨gb,e1,_,_,hc,hz⟩:=HON.out.headAt HLW.out (i:=y2) hy2
          cases e1
          by_cases hneg:nth A y2<0
          ·have e3:dpush (c:Int) (A,B) y2=(A.set y2 (c:Int),y2 :: B):=by unfold dpush;rw[if_pos hneg]
           have HE3:=Lib.hid (e3.symm.trans HPa.out)
           clear e3
           have hon2:=(HON.out.put HLW.out y2 hy2 (c:Int)).alloc (.cells #[.int .i64 (y2:Int)] 3)
           have how2:=(HOW.out.setCell (a:=⟨w.heap.size,y2,none⟩) (fun e=>Nat.not_succ_le_self _ (HOW.out.lt _ e).1) (.int .i64 (c:Int))).alloc (.cells #[.int .i64 (y2:Int)] 3)
           have hev2:=(HEW.out.setCell (p:=⟨w.heap.size,y2,none⟩) (Nat.le_refl _) hgn (.int .i64 (c:Int))).alloc (.cells #[.int .i64 (y2:Int)] 3)
           have HON2:=Lib.hid hon2
           have HOW2:=Lib.hid how2
           have HEW2:=Lib.hid hev2
           have HB2:=Lib.hid (show w.heap.size+1≤((wr.setCell ⟨w.heap.size,y2,none⟩ (.int .i64 (c:Int))).alloc (.cells #[.int .i64 (y2:Int)] 3)).heap.size by simp;omega)
           have HL2:=Lib.hid (show (toI B.reverse).length≤8388607 by rw[toI_length,List.length_reverse];omega)
           clear hon2 how2 hev2
           go_wp2_with (at_builtin;refine wpList_app_int (R:=R) (B:=w.heap.size+1) rfl _ _ rfl HOW2.out rfl ⟨wr.heap.size,0,none⟩ 1 (y2:Int) rfl ?h1a ?h1b ?h1c ?h1d ?_)
           case h1b=>exact HL2.out
           case h1c=>have:=HB2.out;first|exact this|(simp at this ⊢;omega)
           case h1d=>exact fun q hq=>HEW2.out.inv.none_of_ge (by simp at hq ⊢;omega)
           intro v' w5 ho5 hg5 hs5
           have HE5:=Lib.hid (HEW2.out.app HOW2.out (by omega) hg5)
           have HN5:=Lib.hid (HON2.out.kept hg5 (Or.inr (fun e=>by have:=(HOW2.out.lt _ e.symm).1;simp at this;omega)))
           have HO5:=Lib.hid ho5
           clear ho5 hg5 hs5
           go_wp2_with fail
           go_roundg (2-(1+1))
           case measure=>omega
           case rel=>
            have e5:A.set y2 (c:Int)=N2∧y2 :: B=st2:=by have:=HE3.out;injection this with a b;exact⟨a,b⟩
            have ho6:=HO5.out
            rw[←toI_rev_cons,e5.2] at ho6
            obtain⟨a6,c6,e6,_⟩:=ho6.ints.open
            rw[toI_length,List.length_reverse] at e6
            subst e6
            exact⟨1+1,N2,st2,by omega,by omega,⟨HE5.out,by rw[←e5.1,List.length_set];exact HLW.out,by rw[←e5.1];exact HN5.out,_,_,rfl,ho6⟩,by simp⟩
          ·have e3:dpush (c:Int) (A,B) y2=(A,B):=by unfold dpush;rw[if_neg hneg]
           have HE3:=Lib.hid (e3.symm.trans HPa.out)
           clear e3
           go_wp2_with fail
           go_roundg (2-(1+1))
           case measure=>omega
           case rel=>
            have e5:A=N2∧B=st2:=by have:=HE3.out;injection this with a b;exact⟨a,b⟩
            exact⟨1+1,N2,st2,by omega,by omega,by rw[←e5.1,←e5.2];exact HWt.out,by simp⟩
         ·subst hA hB
          go_wp2_with fail
          go_roundg g'
          case measure=>omega
          case rel=>exact⟨A,B,hw,HD2.out,HM2.out,by omega⟩
    ·obtain rfl:k=n:=by omega
     go_wp2_with fail
     go_ret
     refine⟨_,rfl,HE.out,?_⟩
     have e3:partsL s=N:=by unfold partsL;rw[HL.out,HNC.out]
     rw[e3]
     exact HO.out
end
section
open Go.RowKit
set_option linter.unusedVariables false
def partC (p:PartR):List Value:=[.int .i64 p.root,.int .i64 p.v,.int .i64 p.e,.int .i64 p.b,.int .i64 p.g]
def flatF (f:Nat→PartR):Nat→List Value
 | 0=>[]
 | C+1=>flatF f C ++ partC (f C)
theorem flatF_length (f:Nat→PartR):∀ C,(flatF f C).length=C*5
 | 0=>rfl
 | C+1=>by unfold flatF;rw[List.length_append,flatF_length f C];show _+5=_;omega
theorem flatF_congr {f g:Nat→PartR}:∀ {C:Nat},(∀ i,i<C→f i=g i)→flatF f C=flatF g C
 | 0,_=>rfl
 | C+1,h=>by unfold flatF;rw[flatF_congr fun i hi=>h i (by omega),h C (by omega)]
theorem flatF_get {f:Nat→PartR} {k c:Nat} (hc:c<5):∀ {C:Nat},k<C→(flatF f C)[k*5+c]?=(partC (f k))[c]?
 | C+1,hk=>by
  unfold flatF
  by_cases e:k=C
  ·subst e
   rw[List.getElem?_append_right (by rw[flatF_length];omega),flatF_length,Nat.add_sub_cancel_left]
  ·rw[List.getElem?_append_left (by rw[flatF_length];omega),flatF_get hc (by omega)]
theorem flatF_set {f g:Nat→PartR} {k c:Nat} {u:Value} (hc:c<5) (hk':partC (g k)=(partC (f k)).set c u):∀ {C:Nat},k<C→(∀ i,i<C→i≠k→g i=f i)→(flatF f C).set (k*5+c) u=flatF g C
 | C+1,hk,h=>by
  unfold flatF
  by_cases e:k=C
  ·subst e
   rw[List.set_append_right _ _ (by rw[flatF_length];omega),flatF_length,Nat.add_sub_cancel_left,hk',flatF_congr fun i hi=>(h i (by omega) (by omega)).symm]
  ·rw[List.set_append_left _ _ (by rw[flatF_length];omega),flatF_set hc hk' (by omega) fun i hi=>h i (by omega),h C (by omega) (fun e'=>e e'.symm)]
theorem new_cells (w:World) (l:List Value) (T:TypeId) (j:Nat) (u:Value) (h:l[j]?=some u):(w.alloc (.cells l.toArray T)).cell? ((⟨w.heap.size,0,none⟩:Addr).add j)=some u:=by
 have hadd:(⟨w.heap.size,0,none⟩:Addr).add j=⟨w.heap.size,j,none⟩:=by unfold Addr.add;split <;> simp_all
 rw[hadd]
 simp[h]
def OwnPs (R:Reg) (B:Nat) (w:World) (v:Value) (C:Nat) (f:Nat→PartR):Prop:=
 ∃ a cap,v=.slice a C cap∧OwnV R B 143 5 w (.slice a C cap) C (flatF f C)
theorem part_info:(Tryz.prog.info? 143).map (fun i=>(i.zero,i.size,i.bytes))=some (some (.agg #[.int .i64 0,.int .i64 0,.int .i64 0,.int .i64 0,.int .i64 0]),5,40):=by kernel_rfl
def partsF (s:List Nat) (k:Nat):PartR:=if k<partsN s then partF s k else loneR
def RetParts (R:Reg) (w:World) (C:Nat) (f:Nat→PartR) (e:Ending) (w':World):Prop:=∃ v R',e=.returned v∧Ev R w R' w'∧OwnPs R' w.heap.size w' v C f
theorem vcnt_none {t:List Nat} {N:List Int} {k:Int}:∀ {j:Nat},(∀ i,i<j→nth N i≠k)→vcnt t N k j=0
 | 0,_=>rfl
 | j+1,h=>by rw[vcnt_succ,vcnt_none fun i hi=>h i (by omega),if_neg (fun h'=>h j (by omega) h'.1)]
theorem ecnt_none {N:List Int} {k:Int}:∀ {j:Nat},(∀ i,i<j→nth N i≠k)→ecnt N k j=0
 | 0,_=>rfl
 | j+1,h=>by rw[ecnt_succ,ecnt_none fun i hi=>h i (by omega),if_neg (h j (by omega))]
def putV (f:Nat→PartR) (k:Nat) (i:Nat):PartR:=if i=k then { f i with v:=(f i).v+1 } else f i
def putB (f:Nat→PartR) (k:Nat) (i:Nat):PartR:=if i=k then { f i with b:=(f i).b+1 } else f i
def putE (f:Nat→PartR) (k:Nat) (x:Int) (i:Nat):PartR:=if i=k then { f i with e:=(f i).e+x } else f i
def stepV (s:List Nat) (j:Nat) (f:Nat→PartR) (k:Nat):Nat→PartR:=if leadB s j=true then putV f k else f
def stepB (s:List Nat) (j:Nat) (f:Nat→PartR) (k:Nat):Nat→PartR:=if leadB s j=true then putB f k else f
theorem part_step {s:List Nat} {N:List Int} {j k:Nat} (hk:nth N j=(k:Int)) (i:Nat):
  putE (stepB (phiL s) j (stepV s j (partAt s N 0 j) k) k) k ((j % 2:Nat):Int) i=partAt s N 0 (j+1) i:=by
 unfold partAt
 rw[vcnt_succ,vcnt_succ,ecnt_succ,hk]
 by_cases e:i=k
 ·subst e
  unfold putE stepB stepV
  by_cases h1:leadB s j=true <;> by_cases h2:leadB (phiL s) j=true <;> simp[h1,h2,putV,putB]
 ·have e':¬ (k:Int)=(i:Int):=by omega
  unfold putE stepB stepV
  by_cases h1:leadB s j=true <;> by_cases h2:leadB (phiL s) j=true <;> simp[h1,h2,putV,putB,e,e']
set_option maxRecDepth 100000 in
set_option maxHeartbeats 4000000 in
theorem eparts_any (R:Reg) (w:World) (hI:Inv R w) (p:Value) (s:List Nat) (root:Int) (lone:Nat) (hp:MapAt R p s root lone):
  Calls Tryz.prog 120 #[p] w (RetParts R w (partsN s+lone) (partsF s)):=by
 obtain⟨hS,hok⟩:=hp.ok hI
 have he2:s.length % 2=0:=hok.1
 have hn:s.length≤131073:=hok.2.1
 have hlone:lone≤65536:=by have:=hok.2.2;omega
 have hNm:=enames_any R w hI p s root lone hp
 obtain⟨n,hl⟩:∃ n,s.length=n:=⟨_,rfl⟩
 have HVt:=Lib.hid (fun R' w' (he:Ev R w R' w') (x:Nat) (hx:x<n)=>by
  have:=vertex_any R' w' he.inv p s root lone (he.map hp) x
  rwa [nameI_in (by omega)] at this)
 have HFc:=Lib.hid (fun R' w' (he:Ev R w R' w') (x:Nat) (hx:x<n)=>by
  have:=face_any R' w' he.inv p s root lone (he.map hp) x
  rwa [nameI_in (by rw[phiL_length];omega)] at this)
 have HLo:=Lib.hid (fun R' w' (he:Ev R w R' w')=>lone_any R' w' he.inv p s root lone (he.map hp))
 have HOrd:=Lib.hid (partsL_ord hS he2)
 have HGen:=Lib.hid (fun (k:Nat) (hk:k<partsN s)=>genOf_euler hS he2 hk)
 have HCs:=Lib.hid (fun k (hk:k<n)=>names_next hS (k:=k) (by omega))
 have HCp:=Lib.hid (fun k (hk:k<n)=>names_next (phiL_perm hS he2) (k:=k) (by rw[phiL_length];omega))
 have HB1:=Lib.hid (fun k=>namesGo_count s k)
 have HB2:=Lib.hid (fun k=>namesGo_count (phiL s) k)
 rw[hl] at HOrd
 have HPN:Hid ((partsGo s n).2=partsN s):=Lib.hid (by unfold partsN;rw[hl])
 have HL:=Lib.hid hl
 have HI:=Lib.hid hI
 have HNm:=Lib.hid hNm
 rw[hl] at hn
 clear hI hS hok hNm hl he2
 obtain⟨N,hN⟩:∃ N,partsL s=N:=⟨_,rfl⟩
 rw[hN] at HNm HOrd HGen
 have HN:=Lib.hid hN
 clear hN
 obtain⟨cnt,hcnt⟩:∃ c:Nat→Nat,(fun k=>(partsGo s k).2)=c:=⟨_,rfl⟩
 rw[hcnt] at HOrd
 have HCN:Hid (cnt n=partsN s):=Lib.hid (by rw[←hcnt];exact HPN.out)
 clear HPN hcnt
 go_enter Tryz.func120,Tryz.ntmps120
 go_wp2_with fail
 refine HNm.out.mono ?_
 rintro e w1 ⟨vN,rfl,he1,ho1⟩
 obtain⟨aN,cN,rfl,hf1⟩:=ho1.free.open
 rw[HOrd.out.len] at hf1 ⊢
 have HE1:=Lib.hid he1
 have HF1:=Lib.hid hf1
 clear he1 ho1 hf1
 go_wp2_with fail
 go_loopg [3,4,5,14] n (fun g v3 v4 v5 v14 wr=>∃ (j:Nat) (Rj:Reg),j≤n∧n-j≤g∧v4=.int .i64 (((namesGo s j).2:Nat):Int)∧v5=.int .i64 (((namesGo (phiL s) j).2:Nat):Int)∧v14=.int .i64 (j:Int)∧Ev R w1 Rj wr∧OwnPs Rj w1.heap.size wr v3 (cnt j) (partAt s N 0 j))
 case atStart=>exact⟨0,R,Nat.zero_le _,by omega,rfl,rfl,rfl,Ev.refl HE1.out.inv,by rw[HOrd.out.zero];exact⟨none,0,rfl,OwnV.nil R _ _ _ _⟩⟩
 case round=>
  obtain⟨j,Rj,hj,hg,rfl,rfl,rfl,he,ho⟩:=hrel
  have HE:=Lib.hid he
  have HO:=Lib.hid ho
  clear he ho
  by_cases hjn:j<n
  ·have hb:=HOrd.out.bound hjn
   have hcle:=HOrd.out.cnt_le (k:=j+1) (by omega)
   have hcle0:=HOrd.out.cnt_le (k:=j) (by omega)
   obtain⟨bN,oN,e1,hcN⟩:=(HF1.out.ev HE.out).1.cell (i:=j) (by rw[HOrd.out.len];exact hjn)
   subst e1
   have hor:=HOrd.out.ord j hjn
   have hfst:=fun e=>HOrd.out.first hjn e
   obtain⟨k,hk⟩:=Int.eq_ofNat_of_zero_le hb.1
   have HK:=Lib.hid hk
   rw[hk] at hcN hb hor hfst
   obtain⟨v,hv⟩:∃ v,(namesGo s j).2=v:=⟨_,rfl⟩
   obtain⟨f,hf⟩:∃ f,(namesGo (phiL s) j).2=f:=⟨_,rfl⟩
   have hvb:v≤j:=by have:=HB1.out j;omega
   have hfb:f≤j:=by have:=HB2.out j;omega
   have HV:=Lib.hid hv
   have HF:=Lib.hid hf
   rw[hv,hf]
   obtain⟨a3,c3,rfl,ho3⟩:=HO.out
   have HO3:=Lib.hid ho3
   obtain⟨q,hq⟩:∃ q,cnt j=q:=⟨_,rfl⟩
   obtain⟨q1,hq1⟩:∃ q,cnt (j+1)=q:=⟨_,rfl⟩
   rw[hq,hq1] at hor
   rw[hq1] at hb hcle
   rw[hq] at HO3 hcle0 hfst ⊢
   have hkq:k<q1:=by omega
   have HQ:=Lib.hid hq
   have HQ1:=Lib.hid hq1
   have HFst:=Lib.hid hfst
   clear hk hv hf ho3 hq hq1 HO hb hfst
   go_upto_if 22 with fail
   go_cut [3] (fun s3 wx=>∃ (a:Option Addr) (c:Nat),s3=.slice a q1 c∧Ev R w1 Rj wx∧OwnV Rj w1.heap.size 143 5 wx (.slice a q1 c) q1 (flatF (partAt s N 0 j) q1))
   case first=>
    by_cases hnew:k=q
    ·subst hnew
     obtain rfl:q1=k+1:=by omega
     have e0:partAt s N 0 j k=⟨(j:Int),0,0,0,0⟩:=by
      have hf:=HFst.out rfl
      unfold partAt
      rw[rootOf_eq (j:=j) (by rw[HOrd.out.len];exact hjn) HK.out hf,vcnt_none hf,vcnt_none hf,ecnt_none hf]
      rfl
     have HE0:=Lib.hid e0
     have ho4:=HO3.out.alloc (.cells #[.int .i64 (j:Int),.int .i64 0,.int .i64 0,.int .i64 0,.int .i64 0] 143)
     have he4:=HE.out.alloc (.cells #[.int .i64 (j:Int),.int .i64 0,.int .i64 0,.int .i64 0,.int .i64 0] 143)
     have HO4:=Lib.hid ho4
     have HE4:=Lib.hid he4
     have hsz:=HE.out.size
     clear e0 ho4 he4
     go_wp2_with (at_builtin;refine wpList_app_row 135 143 5 40 _ Tryz.underlying135 part_info rfl (by omega) (by omega) (R:=Rj) (B:=w1.heap.size) rfl _ _ rfl HO4.out rfl ⟨wr.heap.size,0,none⟩ 1 1 (partC ⟨(j:Int),0,0,0,0⟩) rfl rfl ?g1 ?g2 ?g3 ?g4 ?g5 ?_)
     case g1=>exact fun _ _ h=>h
     case g2=>
      intro u hu
      simp only[partC,List.mem_cons,List.not_mem_nil,or_false] at hu
      rcases hu with rfl|rfl|rfl|rfl|rfl <;> rfl
     case g3=>omega
     case g4=>omega
     case g5=>exact fun q hq=>HE4.out.inv.none_of_ge (by simp at hq ⊢;omega)
     intro v' w5 ho5 hg5 _
     have HE5:=Lib.hid (HE4.out.appV HO4.out (Nat.le_refl _) hg5)
     have HO5:=Lib.hid ho5
     clear ho5 hg5
     go_wp2_with fail
     go_meet
     have ho6:=HO5.out
     obtain⟨a6,c6,rfl,_⟩:=ho6.open
     rw[←HE0.out] at ho6
     exact⟨a6,c6,rfl,HE5.out,ho6⟩
    ·obtain rfl:q1=q:=by omega
     go_wp2_with fail
     go_meet
     exact⟨a3,c3,rfl,HE.out,HO3.out⟩
   case rest=>
    obtain⟨a,c,rfl,he,ho⟩:=hcut
    obtain⟨gb,rfl,hgb,hgn,hc,hz⟩:=ho.headAt (i:=k*5+1) (by rw[flatF_length];omega)
    rw[flatF_get (by omega) hkq] at hc
    have HE5:=Lib.hid he
    have HO5:=Lib.hid ho
    clear he ho hcN HO3 HE
    clear hc
    go_wp2_with fail
    refine (HVt.out Rj wc (HE1.out.trans HE5.out) j hjn).mono ?_
    rintro e w6 ⟨rfl,R6,he6⟩
    have HE6:=Lib.hid (HE5.out.trans he6)
    have HO6:=Lib.hid (HO5.out.ev he6)
    have hcs:=HCs.out j hjn
    have hld:leadB s j=(nth (namesL s) j == (((namesGo s j).2:Nat):Int)):=rfl
    rw[HV.out] at hcs hld
    obtain⟨x,hx⟩:∃ x,nth (namesL s) j=x:=⟨_,rfl⟩
    obtain⟨v1,hv1⟩:∃ x,(namesGo s (j+1)).2=x:=⟨_,rfl⟩
    rw[hx] at hcs hld ⊢
    rw[hv1] at hcs
    have HLD:=Lib.hid hld
    have HV1:=Lib.hid hv1
    have HX:=Lib.hid hx
    clear he6 HE5 HO5 hld hv1 hx
    go_upto_if 35 with fail
    go_cut [4] (fun s4 wx=>s4=.int .i64 (v1:Int)∧Ev R w1 R6 wx∧OwnV R6 w1.heap.size 143 5 wx (.slice (some ⟨gb,0,none⟩) q1 c) q1 (flatF (stepV s j (partAt s N 0 j) k) q1))
    case first=>
     by_cases hxv:x=(v:Int)
     ·subst hxv
      obtain rfl:v1=v+1:=by omega
      have hl:leadB s j=true:=by rw[HLD.out];simp
      obtain⟨gb',e1,_,hgn6,hc0,hz⟩:=HO6.out.headAt (i:=k*5+1) (by rw[flatF_length];omega)
      cases e1
      rw[flatF_get (by omega) hkq] at hc0
      obtain⟨y,hy⟩:∃ y,vcnt s N (k:Int) j=y:=⟨_,rfl⟩
      have hc:w6.cell? ⟨gb,k*5+1,none⟩=some (.int .i64 (y:Int)):=by rw[←hy];exact hc0
      have hyb:y≤j:=by rw[←hy];exact vcnt_le s N k j
      have hst:=HO6.out.put (k*5+1) (.int .i64 ((y:Int)+1))
      rw[flatF_set (f:=partAt s N 0 j) (g:=stepV s j (partAt s N 0 j) k) (by omega) (by
       rw[stepV,if_pos hl,←hy]
       simp[putV,partC,partAt]) hkq (fun i _ hi=>by rw[stepV,if_pos hl];simp[putV,hi])] at hst
      have HST:=Lib.hid hst
      have HSE:=Lib.hid (HE6.out.setCell (p:=⟨gb,k*5+1,none⟩) hgb hgn6 (.int .i64 ((y:Int)+1)))
      clear hst hl hy hcs hor hc0
      go_wp2_with fail
      go_meet
      exact⟨by go_num,HSE.out,HST.out⟩
     ·have hl:¬ leadB s j=true:=by rw[HLD.out];simpa using hxv
      obtain rfl:v1=v:=by omega
      have HST:=HO6.out
      rw[show partAt s N 0 j=stepV s j (partAt s N 0 j) k by rw[stepV,if_neg hl]] at HST
      have HST:=Lib.hid HST
      clear hl hcs hor
      go_wp2_with fail
      go_meet
      exact⟨rfl,HE6.out,HST.out⟩
    case rest=>
     obtain⟨rfl,he,ho⟩:=hcut
     have HE7:=Lib.hid he
     have HO7:=Lib.hid ho
     clear he ho hcs
     go_wp2_with fail
     refine (HFc.out R6 wc (HE1.out.trans HE7.out) j hjn).mono ?_
     rintro e w8 ⟨rfl,R8,he8⟩
     have HE8:=Lib.hid (HE7.out.trans he8)
     have HO8:=Lib.hid (HO7.out.ev he8)
     have hcs:=HCp.out j hjn
     have hld:leadB (phiL s) j=(nth (namesL (phiL s)) j == (((namesGo (phiL s) j).2:Nat):Int)):=rfl
     rw[HF.out] at hcs hld
     obtain⟨x,hx⟩:∃ x,nth (namesL (phiL s)) j=x:=⟨_,rfl⟩
     obtain⟨f1,hf1⟩:∃ x,(namesGo (phiL s) (j+1)).2=x:=⟨_,rfl⟩
     rw[hx] at hcs hld ⊢
     rw[hf1] at hcs
     have HLE:=Lib.hid hld
     have HF1':=Lib.hid hf1
     obtain⟨h0,hh0⟩:∃ h,stepV s j (partAt s N 0 j) k=h:=⟨_,rfl⟩
     rw[hh0] at HO8
     have hb0:(h0 k).b=((vcnt (phiL s) N (k:Int) j:Nat):Int)∧(h0 k).e=((ecnt N (k:Int) j:Nat):Int):=by
      rw[←hh0]
      unfold stepV
      split <;> simp[putV,partAt]
     have HH0:=Lib.hid hh0
     have HB0:=Lib.hid hb0
     clear he8 HE7 HO7 hld hf1 hx hh0 hb0
     go_upto_if 49 with fail
     go_cut [5] (fun s5 wx=>s5=.int .i64 (f1:Int)∧Ev R w1 R8 wx∧OwnV R8 w1.heap.size 143 5 wx (.slice (some ⟨gb,0,none⟩) q1 c) q1 (flatF (stepB (phiL s) j h0 k) q1))
     case first=>
      by_cases hxv:x=(f:Int)
      ·subst hxv
       obtain rfl:f1=f+1:=by omega
       have hl:leadB (phiL s) j=true:=by rw[HLE.out];simp
       obtain⟨gb',e1,_,hgn6,hc0,hz⟩:=HO8.out.headAt (i:=k*5+3) (by rw[flatF_length];omega)
       cases e1
       rw[flatF_get (by omega) hkq] at hc0
       obtain⟨y,hy⟩:∃ y,vcnt (phiL s) N (k:Int) j=y:=⟨_,rfl⟩
       have hc:w8.cell? ⟨gb,k*5+3,none⟩=some (.int .i64 (y:Int)):=by rw[←hy,hc0,←HB0.out.1];rfl
       have hyb:y≤j:=by rw[←hy];exact vcnt_le (phiL s) N k j
       have hst:=HO8.out.put (k*5+3) (.int .i64 ((y:Int)+1))
       rw[flatF_set (f:=h0) (g:=stepB (phiL s) j h0 k) (by omega) (by
        rw[stepB,if_pos hl,←hy,←HB0.out.1]
        simp[putB,partC]) hkq (fun i _ hi=>by rw[stepB,if_pos hl];simp[putB,hi])] at hst
       have HST:=Lib.hid hst
       have HSE:=Lib.hid (HE8.out.setCell (p:=⟨gb,k*5+3,none⟩) hgb hgn6 (.int .i64 ((y:Int)+1)))
       clear hst hl hy hcs hor hc0
       go_wp2_with fail
       go_meet
       exact⟨by go_num,HSE.out,HST.out⟩
      ·have hl:¬ leadB (phiL s) j=true:=by rw[HLE.out];simpa using hxv
       obtain rfl:f1=f:=by omega
       have HST:=HO8.out
       rw[show h0=stepB (phiL s) j h0 k by rw[stepB,if_neg hl]] at HST
       have HST:=Lib.hid HST
       clear hl hcs hor
       go_wp2_with fail
       go_meet
       exact⟨rfl,HE8.out,HST.out⟩
     case rest=>
      obtain⟨rfl,he,ho⟩:=hcut
      have HE9:=Lib.hid he
      obtain⟨gb',e1,_,hgn6,hc0,hz⟩:=ho.headAt (i:=k*5+2) (by rw[flatF_length];omega)
      cases e1
      rw[flatF_get (by omega) hkq] at hc0
      obtain⟨y,hy⟩:∃ y,ecnt N (k:Int) j=y:=⟨_,rfl⟩
      have e0:(stepB (phiL s) j h0 k k).e=(y:Int):=by
       rw[←hy,←HB0.out.2]
       unfold stepB
       split <;> simp[putB]
      have hc:wc.cell? ⟨gb,k*5+2,none⟩=some (.int .i64 (y:Int)):=by rw[hc0,←e0];rfl
      have hyb:y≤j:=by rw[←hy];exact ecnt_le N k j
      have hst:=ho.put (k*5+2) (.int .i64 ((y:Int)+(j:Int) % 2))
      rw[flatF_set (f:=stepB (phiL s) j h0 k) (g:=putE (stepB (phiL s) j h0 k) k ((j % 2:Nat):Int)) (by omega) (by
       simp only[putE,if_true,partC,e0]
       rw[show ((j % 2:Nat):Int)=(j:Int) % 2 by omega]
       rfl) hkq (fun i _ hi=>by simp[putE,hi]),flatF_congr (g:=partAt s N 0 (j+1)) (fun i _=>by rw[←HH0.out];exact part_step HK.out i)] at hst
      have HST:=Lib.hid hst
      have HSE:=Lib.hid (he.setCell (p:=⟨gb,k*5+2,none⟩) hgb hgn6 (.int .i64 ((y:Int)+(j:Int) % 2)))
      clear hst hc0 e0 hcs hor ho he hy
      go_wp2_with fail
      go_roundg (n-(j+1))
      case measure=>omega
      case rel=>
       exact⟨j+1,R8,by omega,by omega,by rw[HV1.out],by rw[HF1'.out],by go_num,HSE.out,by rw[HQ1.out];exact⟨_,_,rfl,HST.out⟩⟩
  ·obtain rfl:j=n:=by omega
   obtain⟨a3,c3,rfl,ho3⟩:=HO.out
   have HO3:=Lib.hid ho3
   have hcle:=HOrd.out.cnt_le (Nat.le_refl j)
   rw[HCN.out] at HO3 hcle ⊢
   obtain⟨C,hC⟩:∃ C,partsN s=C:=⟨_,rfl⟩
   rw[hC] at HO3 hcle ⊢
   have HC:=Lib.hid hC
   obtain⟨F,hF⟩:∃ F:Nat→PartR,F=fun k=>if k<C then partF s k else loneR:=⟨_,rfl⟩
   have HFe:=Lib.hid hF
   have HFp:Hid (partsF s=F):=Lib.hid (by rw[hF];funext k;unfold partsF;rw[hC])
   have hbase:∀ k,k<C→F k={ partAt s N 0 j k with g:=genOf s N k }:=fun k hk=>by
    rw[hF]
    show (if k<C then partF s k else loneR)=_
    rw[if_pos hk]
    unfold partF
    rw[HN.out,HL.out]
    rfl
   have HBs:=Lib.hid hbase
   have HGn:Hid (∀ k,k<C→0≤genOf s N k∧genOf s N k=(2-(vcnt s N (k:Int) j:Nat)+(ecnt N (k:Int) j:Nat)-(vcnt (phiL s) N (k:Int) j:Nat)) / 2∧((vcnt s N (k:Int) j:Nat):Int)-(ecnt N (k:Int) j:Nat)+(vcnt (phiL s) N (k:Int) j:Nat)=2-2*genOf s N k):=Lib.hid (fun k hk=>by
    have h:=HGen.out k (by rw[HC.out];exact hk)
    have h2:genOf s N k=(2-(vcnt s N (k:Int) s.length:Nat)+(ecnt N (k:Int) s.length:Nat)-(vcnt (phiL s) N (k:Int) s.length:Nat)) / 2:=rfl
    rw[HL.out] at h
    rw[HL.out] at h2
    exact⟨h.1,h2,h.2⟩)
   obtain⟨wj,hwj⟩:∃ wj:World,wj=wr:=⟨_,rfl⟩
   subst hwj
   obtain⟨n,hnj⟩:∃ n,n=j:=⟨_,rfl⟩
   subst hnj
   clear hF hC hbase ho3 hjn hg hj HO
   go_wp2_with fail
   go_loopg [71] C (fun g v71 wr=>∃ i:Nat,i≤C∧C-i≤g∧v71=.int .i64 (i:Int)∧Ev R w1 Rj wr∧OwnV Rj w1.heap.size 143 5 wr (.slice a3 C c3) C (flatF (fun k=>if k<i then F k else partAt s N 0 n k) C))
   case atStart=>exact⟨0,Nat.zero_le _,by omega,rfl,HE.out,by simpa using HO3.out⟩
   case round=>
    obtain⟨i,hi,hg,rfl,he,ho⟩:=hrel
    have HEi:=Lib.hid he
    have HOi:=Lib.hid ho
    clear he ho
    by_cases hiC:i<C
    ·obtain⟨V,hV⟩:∃ V,vcnt s N (i:Int) n=V:=⟨_,rfl⟩
     obtain⟨E,hE⟩:∃ V,ecnt N (i:Int) n=V:=⟨_,rfl⟩
     obtain⟨B,hB⟩:∃ V,vcnt (phiL s) N (i:Int) n=V:=⟨_,rfl⟩
     obtain⟨g0,hg0⟩:∃ V,genOf s N i=V:=⟨_,rfl⟩
     have hgn:=HGn.out i hiC
     have hVb:=vcnt_le s N (i:Int) n
     have hEb:=ecnt_le N (i:Int) n
     have hBb:=vcnt_le (phiL s) N (i:Int) n
     have hr0:(if i<i then F i else partAt s N 0 n i)=⟨(rootOf N (i:Int):Nat),(V:Int),(E:Int),(B:Int),0⟩:=by
      rw[if_neg (Nat.lt_irrefl _),←hV,←hE,←hB]
      rfl
     have hFi:F i=⟨(rootOf N (i:Int):Nat),(V:Int),(E:Int),(B:Int),g0⟩:=by
      rw[HBs.out i hiC,←hV,←hE,←hB,←hg0]
      rfl
     rw[hV,hE,hB,hg0] at hgn
     rw[hV] at hVb
     rw[hE] at hEb
     rw[hB] at hBb
     obtain⟨gb,rfl,hgb,hgnn,h1,_⟩:=HOi.out.headAt (i:=i*5+1) (by rw[flatF_length];omega)
     obtain⟨_,e2,_,_,h2,_⟩:=HOi.out.headAt (i:=i*5+2) (by rw[flatF_length];omega)
     cases e2
     obtain⟨_,e3,_,_,h3,_⟩:=HOi.out.headAt (i:=i*5+3) (by rw[flatF_length];omega)
     cases e3
     obtain⟨_,e4,_,_,h4,hz⟩:=HOi.out.headAt (i:=i*5+4) (by rw[flatF_length];omega)
     cases e4
     rw[flatF_get (by omega) hiC,hr0] at h1 h2 h3 h4
     have c1:wr.cell? ⟨gb,i*5+1,none⟩=some (.int .i64 (V:Int)):=h1
     have c2:wr.cell? ⟨gb,i*5+2,none⟩=some (.int .i64 (E:Int)):=h2
     have c3:wr.cell? ⟨gb,i*5+3,none⟩=some (.int .i64 (B:Int)):=h3
     have c4:wr.cell? ⟨gb,i*5+4,none⟩=some (.int .i64 0):=h4
     have hst:=HOi.out.put (i*5+4) (.int .i64 g0)
     rw[flatF_set (g:=fun k=>if k<i+1 then F k else partAt s N 0 n k) (by omega) (by
      rw[hr0]
      show partC (if i<i+1 then F i else _)=_
      rw[if_pos (by omega),hFi]
      rfl) hiC (fun k _ hk=>by
      show (if k<i+1 then F k else partAt s N 0 n k)=if k<i then F k else partAt s N 0 n k
      by_cases h:k<i
      ·rw[if_pos h,if_pos (by omega)]
      ·rw[if_neg h,if_neg (by omega)])] at hst
     have HST:=Lib.hid hst
     have HSE:=Lib.hid (HEi.out.setCell (p:=⟨gb,i*5+4,none⟩) hgb hgnn (.int .i64 g0))
     obtain⟨ha,hb,hd⟩:=hgn
     have hq:0≤2-(V:Int)+(E:Int)-(B:Int):=by omega
     have HG0:=Lib.hid hb
     clear hst h1 h2 h3 h4 hV hE hB hg0 hr0 hFi hd hb
     go_wp2_with fail
     go_region
     all_goals go_wp2
     go_roundg (C-(i+1))
     case measure=>omega
     case rel=>
      have h1:=HSE.out
      have h2:=HST.out
      rw[HG0.out] at h1 h2
      exact⟨i+1,by omega,by omega,by go_num,h1.drew,h2.drew⟩
    ·obtain rfl:i=C:=by omega
     have ho:=HOi.out
     rw[flatF_congr (g:=F) fun k hk=>by show (if k<i then F k else _)=_;rw[if_pos hk]] at ho
     have HL:=HLo.out Rj wr (HE1.out.trans HEi.out)
     have HL:=Lib.hid HL
     have HO:=Lib.hid ho
     have hlone:∀ k,i≤k→F k=loneR:=fun k hk=>by
      rw[HFe.out]
      show (if k<i then _ else _)=_
      rw[if_neg (by omega)]
     have HLn:=Lib.hid hlone
     obtain⟨wj2,hwj⟩:∃ wj:World,wj=wr:=⟨_,rfl⟩
     subst hwj
     obtain⟨C,hCi⟩:∃ n,n=i:=⟨_,rfl⟩
     subst hCi
     clear ho hlone hiC hi hg
     go_wp2_with fail
     refine HL.out.mono ?_
     rintro e w' ⟨rfl,rfl⟩
     go_wp2_with fail
     go_loopg [3,99] lone (fun g v3 v99 wr=>∃ i:Nat,i≤lone∧lone-i≤g∧v99=.int .i64 (i:Int)∧Ev R w1 Rj wr∧OwnPs Rj w1.heap.size wr v3 (C+i) F)
     case atStart=>exact⟨0,Nat.zero_le _,by omega,rfl,HEi.out,_,_,rfl,HO.out⟩
     case round=>
      obtain⟨i,hi,hg,rfl,he,a3,c3,rfl,ho⟩:=hrel
      have HEx:=Lib.hid he
      have HOx:=Lib.hid ho
      clear he ho
      by_cases hil:i<lone
      ·have ho4:=HOx.out.alloc (.cells #[.int .i64 (-1),.int .i64 1,.int .i64 0,.int .i64 1,.int .i64 0] 143)
       have he4:=HEx.out.alloc (.cells #[.int .i64 (-1),.int .i64 1,.int .i64 0,.int .i64 1,.int .i64 0] 143)
       have HO4:=Lib.hid ho4
       have HE4:=Lib.hid he4
       have hsz:=HEx.out.size
       clear ho4 he4
       go_wp2_with (at_builtin;refine wpList_app_row 135 143 5 40 _ Tryz.underlying135 part_info rfl (by omega) (by omega) (R:=Rj) (B:=w1.heap.size) rfl _ _ rfl HO4.out rfl ⟨wr.heap.size,0,none⟩ 1 1 (partC loneR) rfl rfl ?g6 ?g7 ?g8 ?g9 ?g0 ?_)
       case g6=>exact fun j u h=>new_cells wr (partC loneR) _ j u h
       case g7=>
        intro u hu
        simp only[partC,loneR,List.mem_cons,List.not_mem_nil,or_false] at hu
        rcases hu with rfl|rfl|rfl|rfl|rfl <;> rfl
       case g8=>omega
       case g9=>first|omega|(simp;omega)
       case g0=>exact fun q hq=>HE4.out.inv.none_of_ge (by simp at hq ⊢;omega)
       intro v' w5 ho5 hg5 _
       have HE5:=Lib.hid (HE4.out.appV HO4.out (Nat.le_refl _) hg5)
       have HO5:=Lib.hid ho5
       clear ho5 hg5
       go_wp2_with fail
       go_roundg (lone-(i+1))
       case measure=>omega
       case rel=>
        have ho6:=HO5.out
        rw[←HLn.out (C+i) (by omega)] at ho6
        obtain⟨a6,c6,rfl,_⟩:=ho6.open
        exact⟨i+1,by omega,by omega,by go_num,HE5.out,a6,c6,rfl,ho6⟩
      ·obtain rfl:i=lone:=by omega
       go_wp2_with fail
       go_ret
       refine⟨_,Rj,rfl,HE1.out.trans HEx.out,?_⟩
       rw[HFp.out,HC.out]
       exact⟨a3,c3,rfl,HOx.out.mono HE1.out.size⟩
end
section
open Go.RowKit
set_option linter.unusedVariables false
theorem genOf_le {s:List Nat} (hs:IsPerm s) (he:s.length % 2=0) (hn:s.length≤131073) {k:Nat} (hk:k<partsN s):0≤genOf s (partsL s) k∧genOf s (partsL s) k≤65538:=by
 obtain⟨h1,h2⟩:=genOf_euler hs he hk
 have:=ecnt_le (partsL s) (k:Int) s.length
 omega
theorem partsF_g {s:List Nat} (hs:IsPerm s) (he:s.length % 2=0) (hn:s.length≤131073) (k:Nat):0≤(partsF s k).g∧(partsF s k).g≤65538:=by
 unfold partsF
 by_cases h:k<partsN s
 ·rw[if_pos h];exact genOf_le hs he hn h
 ·rw[if_neg h];exact⟨by decide,by decide⟩
end
end Go.Proofs.YtgphnkkdmlohlaaGreatDoor
