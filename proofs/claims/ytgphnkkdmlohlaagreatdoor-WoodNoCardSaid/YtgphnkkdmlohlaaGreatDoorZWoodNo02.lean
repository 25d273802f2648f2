/- Package slices (Clone, Equal at []int) and package perm: Len, At, List, Orbit, Same. -/
import Derived.Test.YtgphnkkdmlohlaaGreatDoorZWoodNo01
import Derived.Test.YtgphnkkdmlohlaaGreatDoorProg
import Derived.RegionTactic
import Derived.BigQuiet
import Derived.Deep.QuietTactic
namespace Go.Proofs.YtgphnkkdmlohlaaGreatDoor
open Go.RowKit
set_option linter.unusedVariables false
def PermAt (R:Reg) (p:Value) (s:List Nat):Prop:=∃ b,p=.pointer (some ⟨b,0,none⟩)∧R b=some (.inr (.inl s))
theorem Inv.permCells {R:Reg} {w:World} (hI:Inv R w) {b:Nat} {s:List Nat} (h:R b=some (.inr (.inl s))):
  IsPerm s∧s.length≤4194304∧∃ a cap d vf,FixI R (.slice a s.length cap) (toI s)∧w.cell? ⟨b,0,none⟩=some (.slice a s.length cap)∧w.cell? ⟨b,1,none⟩=some (.int .u32 d)∧w.cell? ⟨b,2,none⟩=some (.int .i32 0) ∧
   w.cell? ⟨b,3,none⟩=some (.int .u32 0)∧w.cell? ⟨b,4,none⟩=some vf∧(∀ o,w.frozen? ⟨b,o,none⟩=false)∧((d=0∧vf=nilS)∨(d=1∧FixI R vf (toI (invL s)))):=by
 obtain⟨h1,h2,vto,T,d,vf,ho,h3,h4⟩:=hI _ _ h
 have hf:=h3
 obtain⟨a,cap,e,_⟩:=h3
 subst e
 simp only[toI,List.length_map] at ho hf
 refine⟨h1,h2,a,cap,d,vf,hf,?_,?_,?_,?_,?_,?_,h4⟩
 all_goals simp[World.cell?,World.frozen?,ho]
theorem toI_nth (s:List Nat) (i:Nat):nth (toI s) i=((at' s i:Nat):Int):=by
 simp only[nth,at',toI,List.getD_eq_getElem?_getD,List.getElem?_map]
 cases s[i]? <;> simp
theorem toI_length (s:List Nat):(toI s).length=s.length:=by simp[toI]
theorem FixI.cell {R:Reg} {w:World} (hI:Inv R w) {a:Option Addr} {n cap:Nat} {s:List Nat} (h:FixI R (.slice a n cap) (toI s)) {i:Nat} (hi:i<s.length):
  ∃ b off,a=some ⟨b,off,none⟩∧w.cell? ⟨b,off+i,none⟩=some (.int .i64 ((at' s i:Nat):Int)):=by
 obtain⟨a',cap',h1,h2,h3,h4⟩:=h.ints hI
 cases h1
 obtain⟨b,off,e,hc⟩:=h4 i (by simpa [toI] using hi)
 exact⟨b,off,e,by rw[hc,toI_nth]⟩
theorem Ints.cell {w:World} {a:Option Addr} {n cap:Nat} {xs:List Int} (h:Ints w (.slice a n cap) xs) {i:Nat} (hi:i<xs.length):
  ∃ b off,a=some ⟨b,off,none⟩∧w.cell? ⟨b,off+i,none⟩=some (.int .i64 (nth xs i)):=by
 obtain⟨a',cap',h1,h2,h3,h4⟩:=h
 cases h1
 exact h4 i hi
theorem int_info:(Tryz.prog.info? 3).map (fun i=>(i.zero,i.size,i.bytes))=some (some (.int .i64 0),1,8):=by kernel_rfl
section
variable {ops : Array Oper} {rest : List Oper} {o : Oper} {a : Act} {Q : Exit → Act → World → Prop}
theorem wpList_app_ints {w:World} (hgd:o.guard=none) (s x:Operand)
  (ho:o.op=.call { callee:=.builtin .append,args:=#[s,x],argTypes:=#[25,25] })
  {R:Reg} {B:Nat} {v:Value} {xs:List Int} (hown:OwnI R B 3 w v xs) (hs:a.eval s=v) (ad:Addr) (m c:Nat) (ys:List Int) (hm:ys.length=m) (hx:a.eval x=.slice (some ad) m c)
  (hc:∀ j,j<m→w.cell? (ad.add j)=some (.int .i64 (nth ys j))) (hn:xs.length+m≤8388608) (hB:B≤w.heap.size) (hR:∀ k,w.heap.size≤k→R k=none)
  (h:∀ v' w',OwnI R B 3 w' v' (xs ++ ys)→w.grownBy w' v.ownBlock→(∀ k,v'.ownBlock=some k→v.ownBlock=some k∨w.heap.size≤k)→wpList Tryz.prog ops Q rest (a.put o.dst v') w'):
  wpList Tryz.prog ops Q (o :: rest) a w:=by
 obtain⟨i0,hi,hz0,hz1,hz2⟩:=info_parts int_info
 obtain⟨v',w',hr,h2,h3,h4⟩:=run_append_where (P:=Tryz.prog) w B 25 o.type 3 i0 (.int .i64 0) 1 8 Tryz.underlying25 hi hz0 hz1 hz2 rfl (by decide) v xs.length _ hown.1 ad m c (ys.map (Value.int .i64))
  (by simp[hm])
  (by
   intro j u hj
   have hjm:j<m:=by
    have:=(List.getElem?_eq_some_iff.1 hj).1
    simpa [hm] using this
   rw[hc j hjm,←hj]
   simp[nth,hm,hjm])
  (by
   intro u hu
   simp only[List.mem_map] at hu
   obtain⟨y,_,rfl⟩:=hu
   rfl) (by unfold maxLen;omega) (by omega) hB
 refine wpList_plain hgd fun K hK=>?_
 unfold Oper.wp execOp
 simp only[ho,resolve,invoke,builtin,Sem.run_bind,Sem.run_pure,Result.andThen_ok,List.map_toArray,List.map_cons,List.map_nil,hs,hx,hr]
 refine hK _ _ (h v' w' ⟨?_,?_⟩ h3 h4)
 ·simpa [hm] using h2
 ·intro k hk
  rcases h4 k hk with e|e
  ·exact hown.2 k e
  ·exact hR k e
theorem wpList_app_int {w:World} (hgd:o.guard=none) (s x:Operand)
  (ho:o.op=.call { callee:=.builtin .append,args:=#[s,x],argTypes:=#[25,25] })
  {R:Reg} {B:Nat} {v:Value} {xs:List Int} (hown:OwnI R B 3 w v xs) (hs:a.eval s=v) (ad:Addr) (c:Nat) (y:Int) (hx:a.eval x=.slice (some ad) 1 c)
  (hc:w.cell? ad=some (.int .i64 y)) (hn:xs.length≤8388607) (hB:B≤w.heap.size) (hR:∀ k,w.heap.size≤k→R k=none)
  (h:∀ v' w',OwnI R B 3 w' v' (xs ++ [y])→w.grownBy w' v.ownBlock→(∀ k,v'.ownBlock=some k→v.ownBlock=some k∨w.heap.size≤k)→wpList Tryz.prog ops Q rest (a.put o.dst v') w'):
  wpList Tryz.prog ops Q (o :: rest) a w:=by
 refine wpList_app_ints hgd s x ho hown hs ad 1 c [y] rfl hx ?_ (by omega) hB hR h
 intro j hj
 obtain rfl:j=0:=by omega
 obtain⟨b,off,sp⟩:=ad
 simpa [Addr.add,nth] using hc
end
theorem OwnI.made {R:Reg} {w w1:World} {n B:Nat} (hI:Inv R w) (ho:w1.ownsRow B 3 1 (.slice (some ⟨w.heap.size,0,none⟩) n n) n (madeCells #[.int .i64 0] n).toList):
  OwnI R B 3 w1 (.slice (some ⟨w.heap.size,0,none⟩) n n) (List.replicate n 0):=by
 refine⟨?_,fun k hk=>?_⟩
 ·rw[toList_madeCells_one] at ho
  simpa using ho
 ·simp only[Value.ownBlock,Option.some.injEq] at hk
  exact hI.none_of_ge (by omega)
theorem Ev.app {R0 R:Reg} {w0 w w':World} {B:Nat} {v:Value} {xs:List Int} (he:Ev R0 w0 R w) (hown:OwnI R B 3 w v xs) (hB:w0.heap.size≤B) (hg:w.grownBy w' v.ownBlock):Ev R0 w0 R w':=
 he.grown hg fun k hk=>⟨by have:=hown.lt k hk;omega,hown.2 k hk⟩
theorem len_any (R:Reg) (w:World) (hI:Inv R w) (p:Value) (s:List Nat) (hp:PermAt R p s):
  Calls Tryz.prog 65 #[p] w fun e w'=>e=.returned (.int .i64 (s.length:Int))∧w=w':=by
 obtain⟨b,rfl,hb⟩:=hp
 obtain⟨_,hn,a,cap,d,vf,_,c0,_⟩:=hI.permCells hb
 go_enter Tryz.func65,Tryz.ntmps65
 go_wp2
 go_ret
 exact⟨rfl,rfl⟩
def atI (s:List Nat) (i:Int):Int:=if 0≤i∧i<s.length then ((at' s i.toNat:Nat):Int) else -1
theorem atI_in {s:List Nat} {i:Nat} (h:i<s.length):atI s (i:Int)=((at' s i:Nat):Int):=by
 unfold atI;rw[if_pos (by omega)];simp
theorem atI_out {s:List Nat} {i:Int} (h:i<0∨(s.length:Int)≤i):atI s i=-1:=by
 unfold atI;rw[if_neg (by omega)]
theorem atI_pos {s:List Nat} {i:Int} (h:0≤i) (h':i<s.length):atI s i=((at' s i.toNat:Nat):Int):=by
 unfold atI;rw[if_pos (by omega)]
theorem ret_int {a b:Int} (h:a=b):Ending.returned (.int .i64 a)=.returned (.int .i64 b):=by rw[h]
theorem ret_bool {a b:Bool} (h:a=b):Ending.returned (.bool a)=.returned (.bool b):=by rw[h]
set_option maxHeartbeats 400000 in
theorem at_any (R:Reg) (w:World) (hI:Inv R w) (p:Value) (s:List Nat) (hp:PermAt R p s) (i:Int):
  Calls Tryz.prog 82 #[p,.int .i64 i] w fun e w'=>e=.returned (.int .i64 (atI s i))∧w=w':=by
 have HL:=Lib.hid (fun R w hI p hp=>len_any R w hI p s hp)
 have hp':=hp
 obtain⟨b,rfl,hb⟩:=hp
 have HP:=Lib.hid hp'
 clear hp'
 obtain⟨_,hn,a,cap,d,vf,hfx,c0,_⟩:=hI.permCells hb
 by_cases h0:i<0
 ·have HA:=Lib.hid (atI_out (s:=s) (Or.inl h0))
  go_enter Tryz.func82,Tryz.ntmps82
  go_wp2_with fail
  go_ret
  exact⟨ret_int HA.out.symm,rfl⟩
 ·by_cases h1:i<s.length
  ·have HA:=Lib.hid (atI_pos (s:=s) (i:=i) (by omega) h1)
   obtain⟨b',off,rfl,hc⟩:=hfx.cell hI (i:=i.toNat) (by omega)
   have h2:¬ ((s.length:Int)≤i):=by omega
   clear hfx
   go_enter Tryz.func82,Tryz.ntmps82
   go_wp2_with (go_at_call 65;refine (HL.out R _ hI _ HP.out).mono ?_;rintro e w' ⟨rfl,rfl⟩)
   go_ret
   exact⟨ret_int HA.out.symm,rfl⟩
  ·have HA:=Lib.hid (atI_out (s:=s) (i:=i) (Or.inr (by omega)))
   have h2:(s.length:Int)≤i:=by omega
   go_enter Tryz.func82,Tryz.ntmps82
   go_wp2_with (go_at_call 65;refine (HL.out R _ hI _ HP.out).mono ?_;rintro e w' ⟨rfl,rfl⟩)
   go_ret
   exact⟨ret_int HA.out.symm,rfl⟩
end Go.Proofs.YtgphnkkdmlohlaaGreatDoor
