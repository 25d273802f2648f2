/- slices.Replace at []int: one element, neither the first nor the last, by a row of another block: its four roads. Conditions: lengths. -/
import Derived.Test.YtgphnkkdmlohlaaGreatDoorZWoodNo30
import Derived.Shelf.Spec.SlicesInsert
import Derived.Deep.Upon
import Derived.Lib.BufferWrite
namespace Go.Proofs.YtgphnkkdmlohlaaGreatDoor
open Go.RowKit
set_option linter.unusedVariables false
set_option linter.unusedSimpArgs false
theorem oneCell_int {xs:List Int}:∀ v∈xs.map (Value.int .i64),v.oneCell'=true:=fun v hv=>by
 obtain⟨x,_,rfl⟩:=List.mem_map.1 hv
 rfl
theorem grown_cells {a:World} {g:Nat}:∀ (vs:List Value) (o:Nat) (W:World),a.grownBy W (some g)→a.grownBy (W.setCells g o vs) (some g)
 | [],_,_,h=>h
 | v :: vs,o,W,h=>grown_cells vs (o+1) _ (h.trans (Lib.grownBy_setCell W g o v))
theorem grown_drewN (w:World) (k:Nat) (r:Option Nat):w.grownBy (w.drewN k) r:=⟨rfl,rfl,rfl,Nat.le_refl _,fun _ _ _=>rfl⟩
theorem copy_row {W:World} {g gs:Nat} {cur cus:Array Value} {E E':TypeId} (hg:W.heap[g]?=some (.cells cur E (0,0))) (hs:W.heap[gs]?=some (.cells cus E' (0,0))) {o dl k sl:Nat} (ho:o+dl≤cur.size) (hk:sl≤dl) {cs:List Value} (hcs:cs.length=sl) (hc:∀ j,j<sl→cus.toList[k+j]?=cs[j]?) (h1:∀ v∈cs,v.oneCell'=true) (ty:TypeId) (dc sc:Nat):
  (Builtin.copy_ #[25,25] ty #[.slice (some ⟨g,o,none⟩) dl dc,.slice (some ⟨gs,k,none⟩) sl sc]).run Tryz.prog W=.ok (goInt sl) (W.setCells g o cs):=by
 subst hcs
 exact run_copy_cells W 25 25 ty 3 g o dl dc ⟨gs,k,none⟩ cs.length sc cs Tryz.underlying25 int_size (by simp only[Nat.min_def];split <;> omega)
  (fun j v hj=>by
   rw[Addr.add_lit]
   have hjl:=(List.getElem?_eq_some_iff.1 hj).1
   exact row_cell hs (by rw[hc j hjl];exact hj))
  (fun j hj=>row_some hg (by omega)) (fun j _=>row_frozen hg _) h1
set_option maxRecDepth 100000 in
set_option maxHeartbeats 4000000 in
theorem replace_two (w:World) (g n cap i m gv cv:Nat) (cur cuv:Array Value) (hg:w.heap[g]?=some (.cells cur 3 (0,0))) (hsz:cur.size=cap) (hv:w.heap[gv]?=some (.cells cuv 3 (0,0))) (hvm:m≤cuv.size) (hne:g≠gv) (hi0:0<i) (hi:i+1<n) (hnc:n≤cap) (hcap:cap≤9223372036854775807) (hm2:2≤m) (hm:m≤131074) (hn:n≤8388607)
  (h1:∀ v∈cur.toList.take n,v.oneCell'=true) (h1v:∀ v∈cuv.toList.take m,v.oneCell'=true) (hroom:i+m+(n-(i+1))≤cap):
  Calls Tryz.prog 75 #[.slice (some ⟨g,0,none⟩) n cap,.int .i64 (i:Int),.int .i64 ((i+1:Nat):Int),.slice (some ⟨gv,0,none⟩) m cv] w fun e w'=>
   e=.returned (.slice (some ⟨g,0,none⟩) (i+m+(n-(i+1))) cap)∧w.grownBy w' (some g)∧∃ W:World,W.heap=w.heap∧w'.heap=((W.setCells g (i+m) ((cur.toList.take n).drop (i+1))).setCells g i (cuv.toList.take m)).heap:=by
 obtain⟨i1,hi1⟩:∃ i1,i+1=i1:=⟨_,rfl⟩
 rw[hi1] at hi hroom ⊢
 have k1:¬ (i:Int)=(i1:Int):=by omega
 have k2:¬ (i1:Int)=(n:Int):=by omega
 have k3:((i:Int) == (i1:Int))=false:=beq_eq_false_iff_ne.2 k1
 have k4:((i1:Int) == (n:Int))=false:=beq_eq_false_iff_ne.2 k2
 have k5:i≤i1:=by omega
 have k6:i1≤n:=by omega
 have k7:i1≤cap:=by omega
 have k8:i≤n:=by omega
 obtain⟨tot,htot⟩:∃ tot,i+m+(n-i1)=tot:=⟨_,rfl⟩
 rw[htot] at hroom ⊢
 have k9:IntKind.i64.wrap ((i:Int)+(m:Int))=((i+m:Nat):Int):=by rw[show (i:Int)+(m:Int)=((i+m:Nat):Int) by omega];exact IntWalk.i64_in _ (by omega)
 have k10:IntKind.i64.wrap (((i+m:Nat):Int)+((n-i1:Nat):Int))=(tot:Int):=by rw[show (((i+m:Nat):Int))+((n-i1:Nat):Int)=(tot:Int) by omega];exact IntWalk.i64_in _ (by omega)
 have r1:¬ (cap:Int)<(tot:Int):=by omega
 have r3:i≤tot:=by omega
 have r4:i≤cap:=by omega
 have r5:¬ ((i+m:Nat):Int)≤(i1:Int):=by omega
 have mixed:Tryz.prog.follows Departure.mixedOrders=true:=by kernel_rfl
 have hb1:(0:Int)≤(i:Int)+(m:Int):=by omega
 have hb3:(i:Int)+(m:Int)≤(tot:Int):=by omega
 have htn:((i:Int)+(m:Int)).toNat=i+m:=by omega
 have hb2:¬ (cap=i+m):=by omega
 have hb4:¬ (cap=i):=by omega
 have hb5:¬ (cap=i1):=by omega
 have hdl:((cur.toList.take n).drop i1).length=n-i1:=by simp;omega
 have hvl:(cuv.toList.take m).length=m:=by simp;omega
 have hov:∀ (W:World),W.heap=w.heap→∀ la ca lb cb,(callFunc 97 #[.slice (some ⟨g,i+m,none⟩) la ca,.slice (some ⟨gv,0,none⟩) lb cb]).run Tryz.prog W=.ok (.value (.bool false)) W:=fun W hW la ca lb cb=>
  run_apart W (by rw[hW];exact hg) (by rw[hW];exact hv) hne (by omega) (i+m) la ca lb cb
 have hcp1:∀ (W:World),W.heap=w.heap→∀ ty dc sc,(Builtin.copy_ #[25,25] ty #[.slice (some ⟨g,i+m,none⟩) (tot-(i+m)) dc,.slice (some ⟨g,i1,none⟩) (n-i1) sc]).run Tryz.prog W=.ok (goInt (n-i1:Nat)) (W.setCells g (i+m) ((cur.toList.take n).drop i1)):=fun W hW ty dc sc=>
  copy_row (by rw[hW];exact hg) (by rw[hW];exact hg) (by omega) (by omega) hdl (fun j hj=>by rw[List.getElem?_drop,List.getElem?_take,if_pos (by omega)]) (fun v hv=>h1 v (List.mem_of_mem_drop hv)) ty dc sc
 have hcp2:∀ (W W0:World),W0.heap=w.heap→W.heap=(W0.setCells g (i+m) ((cur.toList.take n).drop i1)).heap→∀ ty dc,(Builtin.copy_ #[25,25] ty #[.slice (some ⟨g,i,none⟩) (tot-i) dc,.slice (some ⟨gv,0,none⟩) m cv]).run Tryz.prog W=.ok (goInt (m:Nat)) (W.setCells g i (cuv.toList.take m)):=fun W W0 hW0 hW ty dc=>by
  obtain⟨cur',a1,a2,_⟩:=setCells_block (E:=3) (g:=g) ((cur.toList.take n).drop i1) (i+m) W0 cur (by rw[hW0];exact hg) (by rw[hdl];omega)
  have a3:(W0.setCells g (i+m) ((cur.toList.take n).drop i1)).heap[gv]?=some (.cells cuv 3 (0,0)):=by
   rw[World.heap_setCells_other _ _ _ _ (by rw[hW0];exact lt_of_block hv) (fun e=>hne e.symm),hW0]
   exact hv
  exact copy_row (by rw[hW];exact a1) (by rw[hW];exact a3) (by omega) (by omega) hvl (fun j hj=>by rw[Nat.zero_add,List.getElem?_take,if_pos hj]) h1v ty dc cv
 clear h1 h1v hvl hdl hg hv hne hvm
 go_enter Tryz.func75,Tryz.ntmps75
 go_wp2_with fail
 go_quiet (fail)
 have hov':=fun la ca lb cb=>hov (w.drewN nq) rfl la ca lb cb
 go_wp2_with (simp only[hov'])
 have hcpD:=fun ty dc sc=>hcp1 (w.drewN (nq+1)) rfl ty dc sc
 go_region_law_o (fail)
 have hcpE:=fun ty dc=>hcp2 ((w.drewN (nq+1)).setCells g (i+m) ((cur.toList.take n).drop i1)) (w.drewN (nq+1)) rfl rfl ty dc
 go_wp2_with fail
 go_ret
 exact⟨rfl,grown_cells _ _ _ (grown_cells _ _ _ (grown_drewN _ _ _)),w.drewN (nq+1),rfl,rfl⟩
end Go.Proofs.YtgphnkkdmlohlaaGreatDoor
