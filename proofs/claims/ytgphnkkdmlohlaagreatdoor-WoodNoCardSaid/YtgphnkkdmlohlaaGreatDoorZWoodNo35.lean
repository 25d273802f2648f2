/- slices.Replace at []int: by one element; by none. -/
import Derived.Test.YtgphnkkdmlohlaaGreatDoorZWoodNo31
import Derived.Test.YtgphnkkdmlohlaaGreatDoorZWoodNo34
namespace Go.Proofs.YtgphnkkdmlohlaaGreatDoor
section
open Go.RowKit
set_option linter.unusedVariables false
set_option linter.unusedSimpArgs false
theorem heap_cells {g:Nat}:∀ (vs:List Value) (o:Nat) {W1 W2:World},W1.heap=W2.heap→(W1.setCells g o vs).heap=(W2.setCells g o vs).heap
 | [],_,_,_,h=>h
 | v :: vs,o,W1,W2,h=>heap_cells vs (o+1) (by unfold World.setCell;rw[h])
set_option maxRecDepth 100000 in
set_option maxHeartbeats 4000000 in
theorem replace_one (w:World) (g n cap i gv cv:Nat) (cur cuv:Array Value) (hg:w.heap[g]?=some (.cells cur 3 (0,0))) (hsz:cur.size=cap) (hv:w.heap[gv]?=some (.cells cuv 3 (0,0))) (hvm:1≤cuv.size) (hne:g≠gv) (hi0:0<i) (hi:i+1<n) (hnc:n≤cap) (hcap:cap≤9223372036854775807) (hn:n≤8388607)
  (h1:∀ v∈cur.toList.take n,v.oneCell'=true) (h1v:∀ v∈cuv.toList.take 1,v.oneCell'=true):
  Calls Tryz.prog 75 #[.slice (some ⟨g,0,none⟩) n cap,.int .i64 (i:Int),.int .i64 ((i+1:Nat):Int),.slice (some ⟨gv,0,none⟩) 1 cv] w fun e w'=>
   e=.returned (.slice (some ⟨g,0,none⟩) n cap)∧w.grownBy w' (some g)∧∃ W:World,W.heap=w.heap∧w'.heap=((W.setCells g i (cuv.toList.take 1)).setCells g (i+1) ((cur.toList.take n).drop (i+1))).heap:=by
 obtain⟨i1,hi1⟩:∃ i1,i+1=i1:=⟨_,rfl⟩
 rw[hi1] at hi ⊢
 have k1:¬ (i:Int)=(i1:Int):=by omega
 have k2:¬ (i1:Int)=(n:Int):=by omega
 have k3:((i:Int) == (i1:Int))=false:=beq_eq_false_iff_ne.2 k1
 have k4:((i1:Int) == (n:Int))=false:=beq_eq_false_iff_ne.2 k2
 have k5:i≤i1:=by omega
 have k6:i1≤n:=by omega
 have k7:i1≤cap:=by omega
 have k8:i≤n:=by omega
 have k9:IntKind.i64.wrap ((i:Int)+1)=(i1:Int):=by rw[show (i:Int)+1=(i1:Int) by omega];exact IntWalk.i64_in _ (by omega)
 have k10:IntKind.i64.wrap ((i1:Int)+((n-i1:Nat):Int))=(n:Int):=by rw[show ((i1:Int))+((n-i1:Nat):Int)=(n:Int) by omega];exact IntWalk.i64_in _ (by omega)
 have r1:¬ (cap:Int)<(n:Int):=by omega
 have r4:i≤cap:=by omega
 have mixed:Tryz.prog.follows Departure.mixedOrders=true:=by kernel_rfl
 have hb4:¬ (cap=i):=by omega
 have hb5:¬ (cap=i1):=by omega
 have hdl:((cur.toList.take n).drop i1).length=n-i1:=by simp;omega
 have hvl:(cuv.toList.take 1).length=1:=by simp;omega
 have hcp1:∀ (W:World),W.heap=w.heap→∀ ty dc,(Builtin.copy_ #[25,25] ty #[.slice (some ⟨g,i,none⟩) (n-i) dc,.slice (some ⟨gv,0,none⟩) 1 cv]).run Tryz.prog W=.ok (goInt (1:Nat)) (W.setCells g i (cuv.toList.take 1)):=fun W hW ty dc=>
  copy_row (by rw[hW];exact hg) (by rw[hW];exact hv) (by omega) (by omega) hvl (fun j hj=>by rw[Nat.zero_add,List.getElem?_take,if_pos hj]) h1v ty dc cv
 have hcp2:∀ (W W0:World),W0.heap=w.heap→W.heap=(W0.setCells g i (cuv.toList.take 1)).heap→∀ ty dc sc,(Builtin.copy_ #[25,25] ty #[.slice (some ⟨g,i1,none⟩) (n-i1) dc,.slice (some ⟨g,i1,none⟩) (n-i1) sc]).run Tryz.prog W=.ok (goInt (n-i1:Nat)) (W.setCells g i1 ((cur.toList.take n).drop i1)):=fun W W0 hW0 hW ty dc sc=>by
  obtain⟨cur',a1,a2,a3⟩:=setCells_block (E:=3) (g:=g) (cuv.toList.take 1) i W0 cur (by rw[hW0];exact hg) (by rw[hvl];omega)
  refine copy_row (by rw[hW];exact a1) (by rw[hW];exact a1) (by omega) (Nat.le_refl _) hdl (fun j hj=>?_) (fun v hv=>h1 v (List.mem_of_mem_drop hv)) ty dc sc
  rw[List.getElem?_drop,List.getElem?_take,if_pos (by omega)]
  have:=a3 (i1+j)
  rw[if_neg (by rw[hvl];omega)] at this
  simpa using this
 clear h1 h1v hvl hdl hg hv hne hvm
 go_enter Tryz.func75,Tryz.ntmps75
 go_wp2_with fail
 go_quiet (fail)
 have hcpD:=fun ty dc=>hcp1 (w.drewN nq) rfl ty dc
 go_wp2_with fail
 obtain⟨X,hX⟩:∃ X,(w.drewN nq).setCells g i (cuv.toList.take 1)=X:=⟨_,rfl⟩
 rw[hX]
 have hcpE:=fun ty dc sc=>hcp2 X.drew (w.drewN nq) rfl (by rw[hX];rfl) ty dc sc
 go_region_law_o (fail)
 have hcl:∀ (W:World) (x:Option Addr) (c:Nat) ty,(Builtin.clear_ #[25] ty #[.slice x 0 c]).run Tryz.prog W=.ok (.tuple #[]) W:=fun W x c ty=>by
  cases x <;> simp[Builtin.clear_,run_underlying Tryz.underlying25,zero_int]
 go_wp2_with fail
 all_goals
  go_ret
  subst hX
  exact⟨rfl,grown_cells _ _ _ (World.grownBy.trans (grown_cells _ _ _ (grown_drewN _ _ _)) ⟨rfl,rfl,rfl,Nat.le_refl _,fun _ _ _=>rfl⟩),w.drewN nq,rfl,heap_cells _ _ rfl⟩
set_option maxRecDepth 100000 in
set_option maxHeartbeats 4000000 in
theorem replace_none (w:World) (g n cap i cv:Nat) (av:Option Addr) (cur:Array Value) (hg:w.heap[g]?=some (.cells cur 3 (0,0))) (hsz:cur.size=cap) (hi0:0<i) (hi:i+1<n) (hnc:n≤cap) (hcap:cap≤9223372036854775807) (hn:n≤8388607)
  (h1:∀ v∈cur.toList.take n,v.oneCell'=true):
  Calls Tryz.prog 75 #[.slice (some ⟨g,0,none⟩) n cap,.int .i64 (i:Int),.int .i64 ((i+1:Nat):Int),.slice av 0 cv] w fun e w'=>
   e=.returned (.slice (some ⟨g,0,none⟩) (n-1) cap)∧w.grownBy w' (some g)∧∃ W:World,W.heap=w.heap∧w'.heap=((W.setCells g i ((cur.toList.take n).drop (i+1))).setCells g (n-1) [.int .i64 0]).heap:=by
 obtain⟨i1,hi1⟩:∃ i1,i+1=i1:=⟨_,rfl⟩
 rw[hi1] at hi ⊢
 obtain⟨n1,hn1⟩:∃ n1,n-1=n1:=⟨_,rfl⟩
 rw[hn1]
 have k1:¬ (i:Int)=(i1:Int):=by omega
 have k2:¬ (i1:Int)=(n:Int):=by omega
 have k3:((i:Int) == (i1:Int))=false:=beq_eq_false_iff_ne.2 k1
 have k4:((i1:Int) == (n:Int))=false:=beq_eq_false_iff_ne.2 k2
 have k5:i≤i1:=by omega
 have k6:i1≤n:=by omega
 have k7:i1≤cap:=by omega
 have k8:i≤n:=by omega
 have k9:IntKind.i64.wrap ((i:Int)+0)=(i:Int):=by rw[Int.add_zero];exact IntWalk.i64_in _ (by omega)
 have k9b:IntKind.i64.wrap (i:Int)=(i:Int):=IntWalk.i64_in _ (by omega)
 have k10:IntKind.i64.wrap ((i:Int)+((n-i1:Nat):Int))=(n1:Int):=by rw[show ((i:Int))+((n-i1:Nat):Int)=(n1:Int) by omega];exact IntWalk.i64_in _ (by omega)
 have k11:n1≤cap:=by omega
 have k12:n1≤n:=by omega
 have k13:i≤n1:=by omega
 have k14:(i:Int)≤(i1:Int):=by omega
 have hb6:¬ (cap=n1):=by omega
 have r1:¬ (cap:Int)<(n1:Int):=by omega
 have r4:i≤cap:=by omega
 have mixed:Tryz.prog.follows Departure.mixedOrders=true:=by kernel_rfl
 have hb4:¬ (cap=i):=by omega
 have hb5:¬ (cap=i1):=by omega
 have hdl:((cur.toList.take n).drop i1).length=n-i1:=by simp;omega
 have hcp1:∀ (W:World) ty dl dc sc,(Builtin.copy_ #[25,25] ty #[.slice (some ⟨g,i,none⟩) dl dc,.slice av 0 sc]).run Tryz.prog W=.ok (goInt 0) W:=fun W ty dl dc sc=>
  run_copy_none W 25 25 ty 3 (some ⟨g,i,none⟩) av dl dc 0 sc Tryz.underlying25 int_size (by simp[Nat.min_def])
 have hcp2:∀ (W:World),W.heap=w.heap→∀ ty dc sc,(Builtin.copy_ #[25,25] ty #[.slice (some ⟨g,i,none⟩) (n1-i) dc,.slice (some ⟨g,i1,none⟩) (n-i1) sc]).run Tryz.prog W=.ok (goInt (n-i1:Nat)) (W.setCells g i ((cur.toList.take n).drop i1)):=fun W hW ty dc sc=>
  copy_row (by rw[hW];exact hg) (by rw[hW];exact hg) (by omega) (by omega) hdl (fun j hj=>by rw[List.getElem?_drop,List.getElem?_take,if_pos (by omega)]) (fun v hv=>h1 v (List.mem_of_mem_drop hv)) ty dc sc
 have hcl:∀ (W W0:World),W0.heap=w.heap→W.heap=(W0.setCells g i ((cur.toList.take n).drop i1)).heap→∀ ty c,(Builtin.clear_ #[25] ty #[.slice (some ⟨g,n1,none⟩) (n-n1) c]).run Tryz.prog W=.ok (.tuple #[]) (W.setCells g n1 [.int .i64 0]):=fun W W0 hW0 hW ty c=>by
  obtain⟨cur',a1,a2,a3⟩:=setCells_block (E:=3) (g:=g) ((cur.toList.take n).drop i1) i W0 cur (by rw[hW0];exact hg) (by rw[hdl];omega)
  rw[show n-n1=1 by omega]
  exact Lib.run_clear_slice W _ _ ty _ Tryz.underlying25 zero_int rfl rfl g n1 1 c (by omega) (fun j hj=>row_some (by rw[hW];exact a1) (by omega)) (fun j _=>row_frozen (by rw[hW];exact a1) _)
 clear h1 hdl hg
 go_enter Tryz.func75,Tryz.ntmps75
 go_wp2_with fail
 go_quiet (fail)
 go_wp2_with fail
 have hcpE:=fun ty dc sc=>hcp2 (w.drewN (nq+1)) rfl ty dc sc
 go_region_law_o (fail)
 obtain⟨X,hX⟩:∃ X,(w.drewN (nq+1)).setCells g i ((cur.toList.take n).drop i1)=X:=⟨_,rfl⟩
 rw[hX]
 have hclX:=fun ty c=>hcl X (w.drewN (nq+1)) rfl (by rw[hX]) ty c
 go_wp2_with fail
 go_ret
 subst hX
 exact⟨rfl,grown_cells _ _ _ (grown_cells _ _ _ (grown_drewN _ _ _)),w.drewN (nq+1),rfl,rfl⟩
end
section
open Go.RowKit
set_option linter.unusedVariables false
set_option linter.unusedSimpArgs false
set_option maxRecDepth 100000 in
set_option maxHeartbeats 4000000 in
theorem replace_grow (w:World) (g n cap i m gv cv:Nat) (cur cuv:Array Value) (hg:w.heap[g]?=some (.cells cur 3 (0,0))) (hsz:cur.size=cap) (hv:w.heap[gv]?=some (.cells cuv 3 (0,0))) (hvm:m≤cuv.size) (hi0:0<i) (hi:i+1<n) (hnc:n≤cap) (hcap:cap≤8388607) (hm:m≤131074)
  (h1:∀ v∈cur.toList.take n,v.oneCell'=true) (h1v:∀ v∈cuv.toList.take m,v.oneCell'=true) (hroom:cap<i+m+(n-(i+1))):
  Calls Tryz.prog 75 #[.slice (some ⟨g,0,none⟩) n cap,.int .i64 (i:Int),.int .i64 ((i+1:Nat):Int),.slice (some ⟨gv,0,none⟩) m cv] w fun e w'=>
   ∃ G,e=.returned (.slice (some ⟨w.heap.size,0,none⟩) (i+m+(n-(i+1))) G)∧w.grownBy w' none∧i+m+(n-(i+1))≤G∧G≤maxLen∧∃ cu',w'.heap[w.heap.size]?=some (.cells cu' 3 (0,0))∧cu'.size=G ∧
    ∀ j,j<i+m+(n-(i+1))→cu'[j]?=if j<i then cur[j]? else if j<i+m then cuv[j-i]? else cur[j-(i+m)+(i+1)]?:=by
 obtain⟨i1,hi1⟩:∃ i1,i+1=i1:=⟨_,rfl⟩
 rw[hi1] at hi hroom ⊢
 have k1:¬ (i:Int)=(i1:Int):=by omega
 have k2:¬ (i1:Int)=(n:Int):=by omega
 have k3:((i:Int) == (i1:Int))=false:=beq_eq_false_iff_ne.2 k1
 have k4:((i1:Int) == (n:Int))=false:=beq_eq_false_iff_ne.2 k2
 have k5:i≤i1:=by omega
 have k6:i1≤n:=by omega
 have k7:i1≤cap:=by omega
 have k8:i≤n:=by omega
 obtain⟨tot,htot⟩:∃ tot,i+m+(n-i1)=tot:=⟨_,rfl⟩
 rw[htot] at hroom ⊢
 have k9:IntKind.i64.wrap ((i:Int)+(m:Int))=((i+m:Nat):Int):=by rw[show (i:Int)+(m:Int)=((i+m:Nat):Int) by omega];exact IntWalk.i64_in _ (by omega)
 have k10:IntKind.i64.wrap (((i+m:Nat):Int)+((n-i1:Nat):Int))=(tot:Int):=by rw[show (((i+m:Nat):Int))+((n-i1:Nat):Int)=(tot:Int) by omega];exact IntWalk.i64_in _ (by omega)
 have r1:(cap:Int)<(tot:Int):=by omega
 have mixed:Tryz.prog.follows Departure.mixedOrders=true:=by kernel_rfl
 have hb1:(0:Int)≤(i:Int)+(m:Int):=by omega
 have hb3:(i:Int)+(m:Int)≤(tot:Int):=by omega
 have htn:((i:Int)+(m:Int)).toNat=i+m:=by omega
 have hb4:¬ (cap=i):=by omega
 have hb5:¬ (cap=i1):=by omega
 obtain⟨kk,hkk⟩:∃ kk,tot-i=kk:=⟨_,rfl⟩
 have hk1:IntKind.i64.wrap ((tot:Int)-(i:Int))=(kk:Int):=by rw[show (tot:Int)-(i:Int)=(kk:Int) by omega];exact IntWalk.i64_in _ (by omega)
 have hk2:IntKind.i64.wrap ((i:Int)+(m:Int)+((n-i1:Nat):Int)-(i:Int))=(kk:Int):=by rw[show (i:Int)+(m:Int)+((n-i1:Nat):Int)-(i:Int)=(kk:Int) by omega];exact IntWalk.i64_in _ (by omega)
 have hik:i+kk=tot:=by omega
 have hdl:((cur.toList.take n).drop i1).length=n-i1:=by simp;omega
 have hvl:(cuv.toList.take m).length=m:=by simp;omega
 obtain⟨i0,hi0',hz0,hzs,hzb⟩:=info_parts int_info
 have hgl:g<w.heap.size:=lt_of_block hg
 have hgvl:gv<w.heap.size:=lt_of_block hv
 have hrz:∀ (W:World),W.heap=w.heap→∀ ty,∃ G,tot≤G∧G≤maxLen∧∃ ROW:Array Value,ROW.size=G∧(∀ j,j<i→ROW[j]?=cur[j]?)∧(Builtin.append_ #[25,3] ty #[.slice (some ⟨g,0,none⟩) i cap,.int .i64 (kk:Int)]).run Tryz.prog W=.ok (.slice (some ⟨W.heap.size,0,none⟩) tot G) (W.drew.alloc (.cells ROW 3)):=fun W hW ty=>by
  have hold:(Builtin.firstCells i0.size i (.slice (some ⟨g,0,none⟩) i cap)).run Tryz.prog W.drew=.ok ((cur.toList.take n).take i).toArray W.drew:=by
   rw[hzs]
   exact run_firstCells_some W.drew 1 i ⟨g,0,none⟩ i cap ((cur.toList.take n).take i) (by simp;omega) (fun j v hj=>by
    rw[Addr.add_lit,Nat.zero_add]
    rw[List.getElem?_take] at hj
    split at hj
    ·rw[List.getElem?_take] at hj
     split at hj
     ·exact row_cell (by show W.heap[g]?=_;rw[hW];exact hg) hj
     ·cases hj
    ·cases hj)
  have h:=Lib.run_append_grow_zeros W 25 3 ty 3 i0 _ .i64 .i64 Tryz.underlying25 Tryz.underlying3 hi0' hz0 (some ⟨g,0,none⟩) i cap ((cur.toList.take n).take i) hold kk (by omega) (by omega) (by omega) (by omega) (by rw[hzb];omega) (by rw[hzb,hik];exact growslice_fits hroom (by omega))
  rw[hik] at h
  have hG1:=grownCap_ge W tot cap 3
  refine⟨grownCap W tot cap 3,hG1,grownCap_le_maxLen W tot cap 3 (by unfold maxLen;omega),_,?_,fun j hj=>?_,h⟩
  ·simp[Builtin.zeroCells,Value.cells];omega
  ·rw[Array.append_assoc,Array.getElem?_append_left (by simp;omega),List.getElem?_toArray,List.getElem?_take,if_pos hj,List.getElem?_take,if_pos (by omega),Array.getElem?_toList]
 go_enter Tryz.func75,Tryz.ntmps75
 go_wp2_with fail
 go_quiet (fail)
 obtain⟨G,hG1,hG2,ROW,hRs,hRc,hrun⟩:=hrz (w.drewN nq) rfl 25
 go_upto_region 12 with (at_builtin;refine Lib.wpList_append_run _ rfl _ _ _ _ rfl _ _ rfl rfl _ _ hrun ?_)
 obtain⟨W1,hW1⟩:∃ W1,(w.drewN (nq+1)).alloc (.cells ROW 3)=W1:=⟨_,rfl⟩
 rw[hW1]
 obtain⟨H,hH⟩:∃ H,w.heap.size=H:=⟨_,rfl⟩
 have a1:W1.heap[H]?=some (.cells ROW 3 (0,0)):=by rw[←hW1,←hH];exact heap_alloc_new (w.drewN (nq+1)) _
 have a2:W1.heap[gv]?=some (.cells cuv 3 (0,0)):=by rw[←hW1,Below.heap_alloc (w.drewN (nq+1)) _ _ hgvl];exact hv
 have a3:W1.heap[g]?=some (.cells cur 3 (0,0)):=by rw[←hW1,Below.heap_alloc (w.drewN (nq+1)) _ _ hgl];exact hg
 have a4:w.grownBy W1 none:=by rw[←hW1];exact World.grownBy.trans (grown_drewN _ _ _) (World.grownBy_alloc _ _ _)
 have hGi:¬ (G=i):=by omega
 have hGm:¬ (G=i+m):=by omega
 have hcpD:∀ ty dc,(Builtin.copy_ #[25,25] ty #[.slice (some ⟨H,i,none⟩) kk dc,.slice (some ⟨gv,0,none⟩) m cv]).run Tryz.prog W1=.ok (goInt (m:Nat)) (W1.setCells H i (cuv.toList.take m)):=fun ty dc=>
  copy_row a1 a2 (by omega) (by omega) hvl (fun j hj=>by rw[Nat.zero_add,List.getElem?_take,if_pos hj]) h1v ty dc cv
 obtain⟨c1,b1,b2,b3⟩:=setCells_block (E:=3) (g:=H) (cuv.toList.take m) i W1 ROW a1 (by rw[hvl];omega)
 have b4:(W1.setCells H i (cuv.toList.take m)).heap[g]?=some (.cells cur 3 (0,0)):=by
  rw[World.heap_setCells_other _ _ _ _ (lt_of_block a3) (by omega)];exact a3
 obtain⟨X,hX⟩:∃ X,W1.setCells H i (cuv.toList.take m)=X:=⟨_,rfl⟩
 have a5:w.grownBy X (some H):=by rw[←hX];exact grown_cells _ _ _ (World.grownBy.but a4 _)
 rw[hX] at hcpD b1 b4
 have hcpE:∀ ty dl dc sc,dl=tot-(i+m)→(Builtin.copy_ #[25,25] ty #[.slice (some ⟨H,i+m,none⟩) dl dc,.slice (some ⟨g,i1,none⟩) (n-i1) sc]).run Tryz.prog X.drew=.ok (goInt (n-i1:Nat)) (X.drew.setCells H (i+m) ((cur.toList.take n).drop i1)):=fun ty dl dc sc hdl'=>by
  subst hdl'
  exact copy_row (W:=X.drew) b1 b4 (by omega) (by omega) hdl (fun j hj=>by rw[List.getElem?_drop,List.getElem?_take,if_pos (by omega)]) (fun v hv=>h1 v (List.mem_of_mem_drop hv)) ty _ sc
 have hcpF:=fun ty dc sc=>hcpE ty (tot-(i+m)) dc sc rfl
 obtain⟨c2,d1,d2,d3⟩:=setCells_block (E:=3) (g:=H) ((cur.toList.take n).drop i1) (i+m) X.drew c1 b1 (by rw[hdl];omega)
 have a6:w.grownBy (X.drew.setCells H (i+m) ((cur.toList.take n).drop i1)) (some H):=grown_cells _ _ _ (World.grownBy.trans a5 ⟨rfl,rfl,rfl,Nat.le_refl _,fun _ _ _=>rfl⟩)
 clear hcpE hrz hrun h1 h1v hg hv a1 a2 a3 a4 a5 b1 b4 hX
 try rw[hH]
 go_wp2_with fail
 go_region_law_o (fail)
 go_wp2_with fail
 go_ret
 refine⟨G,by rw[hH];rfl,⟨a6.os,a6.tape,a6.output,a6.size,fun k hk _=>a6.block k hk (by simp;omega)⟩,hG1,hG2,c2,by rw[hH];exact d1,by rw[d2,b2];exact hRs,fun j hj=>?_⟩
 rw[d3,hdl,b3,hvl]
 rcases Nat.lt_or_ge j i with q1|q1
 ·rw[if_neg (by omega),if_neg (by omega),if_pos q1,hRc j q1]
 ·rw[if_neg (show ¬ j<i by omega)]
  rcases Nat.lt_or_ge j (i+m) with q2|q2
  ·rw[if_neg (by omega),if_pos ⟨q1,q2⟩,if_pos q2,List.getElem?_take,if_pos (by omega),Array.getElem?_toList]
  ·rw[if_pos ⟨q2,by omega⟩,if_neg (show ¬ j<i+m by omega),List.getElem?_drop,List.getElem?_take,if_pos (by omega),Array.getElem?_toList,Nat.add_comm i1]
end
section
open Go.RowKit
set_option linter.unusedVariables false
set_option linter.unusedSimpArgs false
theorem own_of {R:Reg} {B g G tot:Nat} {w:World} {c:Array Value} {zs:List Int} (hh:w.heap[g]?=some (.cells c 3 (0,0))) (hs:c.size=G) (ht:tot≤G) (hG:G≤maxLen) (hB:B≤g) (hR:R g=none) (hl:zs.length=tot) (hc:∀ j,j<tot→c[j]?=(zs[j]?).map (Value.int .i64)):
  OwnI R B 3 w (.slice (some ⟨g,0,none⟩) tot G) zs:=by
 refine⟨⟨by simp,Or.inr ⟨g,G,c,by rw[hl],hB,hh,by omega,hG,by omega,?_⟩⟩,fun k hk=>by
  obtain rfl:g=k:=by simpa [Value.ownBlock] using hk
  exact hR⟩
 refine List.ext_getElem? fun j=>?_
 rw[List.getElem?_take,Nat.mul_one,hl,List.getElem?_map]
 split
 ·next q=>rw[Array.getElem?_toList,hc j q]
 ·next q=>rw[List.getElem?_eq_none (by omega)];rfl
theorem content {c cur cuv:Array Value} {xs ys:List Int} {i m n:Nat} (hx:xs.length=n) (hy:ys.length=m) (hi:i+1<n) (h1:∀ j,j<n→cur[j]?=(xs[j]?).map (Value.int .i64)) (h2:∀ j,j<m→cuv[j]?=(ys[j]?).map (Value.int .i64))
  (hc:∀ j,j<i+m+(n-(i+1))→c[j]?=if j<i then cur[j]? else if j<i+m then cuv[j-i]? else cur[j-(i+m)+(i+1)]?):
  (xs.take i ++ ys ++ xs.drop (i+1)).length=i+m+(n-(i+1))∧∀ j,j<i+m+(n-(i+1))→c[j]?=((xs.take i ++ ys ++ xs.drop (i+1))[j]?).map (Value.int .i64):=by
 have hl:(xs.take i).length=i:=by rw[List.length_take];omega
 refine⟨by simp;omega,fun j hj=>?_⟩
 rw[hc j hj]
 rcases Nat.lt_or_ge j i with q1|q1
 ·rw[if_pos q1,h1 j (by omega),List.append_assoc,List.getElem?_append_left (by omega),List.getElem?_take,if_pos q1]
 ·rw[if_neg (show ¬ j<i by omega)]
  rcases Nat.lt_or_ge j (i+m) with q2|q2
  ·rw[if_pos q2,h2 _ (by omega),List.getElem?_append_left (by simp;omega),List.getElem?_append_right (by omega),hl]
  ·rw[if_neg (show ¬ j<i+m by omega),h1 _ (by omega),List.getElem?_append_right (by simp;omega),List.getElem?_drop]
   congr 2
   simp
   omega
def RetRep (R0:Reg) (w0:World) (R:Reg) (w:World) (v:Value) (zs:List Int) (e:Ending) (w':World):Prop:=
 ∃ v',e=.returned v'∧Ev R0 w0 R w'∧w.grownBy w' v.ownBlock∧OwnI R w0.heap.size 3 w' v' zs∧∀ k,v'.ownBlock=some k→v.ownBlock=some k∨w.heap.size≤k
theorem replace_any (R0:Reg) (w0:World) (R:Reg) (w:World) (he:Ev R0 w0 R w) (a:Option Addr) (n cap:Nat) (xs:List Int) (ho:OwnI R w0.heap.size 3 w (.slice a n cap) xs) (B:Nat) (av:Option Addr) (m cv:Nat) (ys:List Int) (hv:OwnI R B 3 w (.slice av m cv) ys)
  (hdis:∀ k,(Value.slice av m cv).ownBlock=some k→(Value.slice a n cap).ownBlock≠some k) (hx:xs.length=n) (hy:ys.length=m) (i:Nat) (hi0:0<i) (hi:i+1<n) (hn:n≤500000) (hm:m≤131074):
  Calls Tryz.prog 75 #[.slice a n cap,.int .i64 (i:Int),.int .i64 ((i+1:Nat):Int),.slice av m cv] w (RetRep R0 w0 R w (.slice a n cap) (xs.take i ++ ys ++ xs.drop (i+1))):=by
 have ho':=ho
 obtain⟨⟨_,h2⟩,h3⟩:=ho'
 rcases h2 with ⟨_,h2⟩|⟨g,cap',cur,e,hB,hh,hnc,hmx,hs,ht⟩
 ·omega
 injection e with e1 e2 e3
 subst e1 e3
 have hRg:R g=none:=h3 g rfl
 rw[hx,Nat.mul_one] at ht
 rw[hx] at hnc
 rw[Nat.mul_one] at hs
 have hcur:∀ j,j<n→cur[j]?=(xs[j]?).map (Value.int .i64):=fun j hj=>by
  have:=congrArg (fun l=>l[j]?) ht
  simp only[List.getElem?_take,if_pos hj,List.getElem?_map,Array.getElem?_toList] at this
  exact this
 have h1:∀ v∈cur.toList.take n,v.oneCell'=true:=fun v hv=>oneCell_int v (by rw[←ht];exact hv)
 have hmx2:cap≤9223372036854775807:=by unfold maxLen at hmx;omega
 have fin:∀ {tot:Nat} {w':World} {W:World} {c:Array Value},w.grownBy w' (some g)→tot≤cap→w'.heap[g]?=some (.cells c 3 (0,0))→c.size=cap→tot=i+m+(n-(i+1))→(∀ cuv:Array Value,(∀ j,j<m→cuv[j]?=(ys[j]?).map (Value.int .i64))→∀ j,j<i+m+(n-(i+1))→c[j]?=if j<i then cur[j]? else if j<i+m then cuv[j-i]? else cur[j-(i+m)+(i+1)]?) →
   RetRep R0 w0 R w (.slice (some ⟨g,0,none⟩) n cap) (xs.take i ++ ys ++ xs.drop (i+1)) (.returned (.slice (some ⟨g,0,none⟩) tot cap)) w':=fun {tot w' W c} hg htc hh' hcs htot hc=>by
  obtain⟨l1,l2⟩:=content (cuv:=(ys.map (Value.int .i64)).toArray) hx hy hi hcur (fun j hj=>by simp) (hc _ (fun j hj=>by simp))
  exact⟨_,rfl,he.app ho (Nat.le_refl _) hg,hg,own_of hh' hcs htc hmx hB hRg (by rw[l1,htot]) (fun j hj=>l2 j (by omega)),fun k hk=>.inl hk⟩
 by_cases hm0:m=0
 ·subst hm0
  have hys:ys=[]:=List.eq_nil_of_length_eq_zero hy
  refine (replace_none w g n cap i cv av cur hh hs hi0 hi hnc hmx2 (by omega) h1).mono ?_
  rintro e w' ⟨rfl,hg,W,hW,hw'⟩
  obtain⟨c1,b1,b2,b3⟩:=setCells_block (E:=3) (g:=g) ((cur.toList.take n).drop (i+1)) i W cur (by rw[hW];exact hh) (by simp;omega)
  obtain⟨c2,d1,d2,d3⟩:=setCells_block (E:=3) (g:=g) [.int .i64 0] (n-1) (W.setCells g i ((cur.toList.take n).drop (i+1))) c1 b1 (by simp;omega)
  refine fin (W:=W) hg (by omega) (by rw[hw'];exact d1) (by omega) (by omega) (fun cuv hcuv j hj=>?_)
  have hdl:((cur.toList.take n).drop (i+1)).length=n-(i+1):=by simp;omega
  rw[d3,if_neg (by simp;omega),b3,hdl]
  rcases Nat.lt_or_ge j i with q1|q1
  ·rw[if_neg (by omega),if_pos q1]
  ·rw[if_pos ⟨q1,by omega⟩,if_neg (show ¬ j<i by omega),if_neg (show ¬ j<i+0 by omega),List.getElem?_drop,List.getElem?_take,if_pos (by omega),Array.getElem?_toList]
   congr 1
   omega
 obtain⟨⟨_,v2⟩,v3⟩:=hv
 rcases v2 with ⟨_,v2⟩|⟨gv,cv',cuv,e,_,hhv,hmc,_,hsv,htv⟩
 ·omega
 injection e with e1 e2 e3
 subst e1 e3
 rw[hy,Nat.mul_one] at htv
 rw[hy] at hmc
 rw[Nat.mul_one] at hsv
 have hne:g≠gv:=fun e=>hdis gv rfl (by rw[←e];rfl)
 have hcuv:∀ j,j<m→cuv[j]?=(ys[j]?).map (Value.int .i64):=fun j hj=>by
  have:=congrArg (fun l=>l[j]?) htv
  simp only[List.getElem?_take,if_pos hj,List.getElem?_map,Array.getElem?_toList] at this
  exact this
 have h1v:∀ v∈cuv.toList.take m,v.oneCell'=true:=fun v hv=>oneCell_int v (by rw[←htv];exact hv)
 by_cases hroom:cap<i+m+(n-(i+1))
 ·refine (replace_grow w g n cap i m gv cv cur cuv hh hs hhv (by omega) hi0 hi hnc (by omega) hm h1 h1v hroom).mono ?_
  rintro e w' ⟨G,rfl,hg,hG1,hG2,c,hc1,hc2,hc3⟩
  obtain⟨l1,l2⟩:=content hx hy hi hcur hcuv hc3
  have hgb:=World.grownBy.but hg (some g)
  refine⟨_,rfl,he.app ho (Nat.le_refl _) hgb,hgb,own_of hc1 hc2 hG1 hG2 he.size (he.inv.none_of_ge (Nat.le_refl _)) l1 l2,fun k hk=>.inr ?_⟩
  obtain rfl:w.heap.size=k:=by simpa [Value.ownBlock] using hk
  exact Nat.le_refl _
 ·by_cases hm1:m=1
  ·subst hm1
   refine (replace_one w g n cap i gv cv cur cuv hh hs hhv (by omega) hne hi0 hi hnc hmx2 (by omega) h1 h1v).mono ?_
   rintro e w' ⟨rfl,hg,W,hW,hw'⟩
   have hvl:(cuv.toList.take 1).length=1:=by simp;omega
   have hdl:((cur.toList.take n).drop (i+1)).length=n-(i+1):=by simp;omega
   obtain⟨c1,b1,b2,b3⟩:=setCells_block (E:=3) (g:=g) (cuv.toList.take 1) i W cur (by rw[hW];exact hh) (by rw[hvl];omega)
   obtain⟨c2,d1,d2,d3⟩:=setCells_block (E:=3) (g:=g) ((cur.toList.take n).drop (i+1)) (i+1) (W.setCells g i (cuv.toList.take 1)) c1 b1 (by rw[hdl];omega)
   refine fin (W:=W) hg hnc (by rw[hw'];exact d1) (by omega) (by omega) (fun cuv' hcuv' j hj=>?_)
   rw[d3,hdl,b3,hvl]
   rcases Nat.lt_or_ge j i with q1|q1
   ·rw[if_neg (by omega),if_neg (by omega),if_pos q1]
   ·rw[if_neg (show ¬ j<i by omega)]
    rcases Nat.lt_or_ge j (i+1) with q2|q2
    ·rw[if_neg (by omega),if_pos ⟨q1,q2⟩,if_pos q2,List.getElem?_take,if_pos (by omega),Array.getElem?_toList,hcuv _ (by omega),hcuv' _ (by omega)]
    ·rw[if_pos ⟨q2,by omega⟩,if_neg (show ¬ j<i+1 by omega),List.getElem?_drop,List.getElem?_take,if_pos (by omega),Array.getElem?_toList]
     congr 1
     omega
  ·refine (replace_two w g n cap i m gv cv cur cuv hh hs hhv (by omega) hne hi0 hi hnc hmx2 (by omega) hm (by omega) h1 h1v (by omega)).mono ?_
   rintro e w' ⟨rfl,hg,W,hW,hw'⟩
   have hvl:(cuv.toList.take m).length=m:=by simp;omega
   have hdl:((cur.toList.take n).drop (i+1)).length=n-(i+1):=by simp;omega
   obtain⟨c1,b1,b2,b3⟩:=setCells_block (E:=3) (g:=g) ((cur.toList.take n).drop (i+1)) (i+m) W cur (by rw[hW];exact hh) (by rw[hdl];omega)
   obtain⟨c2,d1,d2,d3⟩:=setCells_block (E:=3) (g:=g) (cuv.toList.take m) i (W.setCells g (i+m) ((cur.toList.take n).drop (i+1))) c1 b1 (by rw[hvl];omega)
   refine fin (W:=W) hg (by omega) (by rw[hw'];exact d1) (by omega) rfl (fun cuv' hcuv' j hj=>?_)
   rw[d3,hvl,b3,hdl]
   rcases Nat.lt_or_ge j i with q1|q1
   ·rw[if_neg (by omega),if_neg (by omega),if_pos q1]
   ·rw[if_neg (show ¬ j<i by omega)]
    rcases Nat.lt_or_ge j (i+m) with q2|q2
    ·rw[if_pos ⟨q1,q2⟩,if_pos q2,List.getElem?_take,if_pos (by omega),Array.getElem?_toList,hcuv _ (by omega),hcuv' _ (by omega)]
    ·rw[if_neg (by omega),if_pos ⟨q2,by omega⟩,if_neg (show ¬ j<i+m by omega),List.getElem?_drop,List.getElem?_take,if_pos (by omega),Array.getElem?_toList]
     congr 1
     omega
end
section
open Go.RowKit
set_option linter.unusedVariables false
set_option linter.unusedSimpArgs false
def revK (xs:List Int) (k:Nat):List Int:=(List.range xs.length).map fun j=>if j<k∨xs.length-k≤j then nth xs (xs.length-1-j) else nth xs j
theorem revK_length (xs:List Int) (k:Nat):(revK xs k).length=xs.length:=by simp[revK]
theorem revK_at (xs:List Int) (k:Nat) {j:Nat} (hj:j<xs.length):nth (revK xs k) j=if j<k∨xs.length-k≤j then nth xs (xs.length-1-j) else nth xs j:=by
 unfold nth
 rw[List.getD_eq_getElem?_getD,List.getElem?_eq_getElem (by rw[revK_length];exact hj)]
 simp[revK,nth]
theorem revK_zero (xs:List Int):revK xs 0=xs:=by
 refine List.ext_getElem (revK_length xs 0) fun j h1 h2=>?_
 have e:=revK_at xs 0 h2
 rw[if_neg (by omega)] at e
 unfold nth at e
 rw[List.getD_eq_getElem?_getD,List.getElem?_eq_getElem h1,List.getD_eq_getElem?_getD,List.getElem?_eq_getElem h2] at e
 exact e
theorem revK_step (xs:List Int) {k:Nat} (hk:2*k+1<xs.length):((revK xs k).set k (nth xs (xs.length-1-k))).set (xs.length-1-k) (nth xs k)=revK xs (k+1):=by
 refine List.ext_getElem (by simp[revK]) fun j h1 h2=>?_
 have hj:j<xs.length:=by rw[revK_length] at h2;exact h2
 have e1:=revK_at xs (k+1) hj
 have e0:=revK_at xs k hj
 have g1:nth (revK xs (k+1)) j=(revK xs (k+1))[j]:=by unfold nth;rw[List.getD_eq_getElem?_getD,List.getElem?_eq_getElem h2];rfl
 have g0:nth (revK xs k) j=(revK xs k)[j]'(by rw[revK_length];exact hj):=by unfold nth;rw[List.getD_eq_getElem?_getD,List.getElem?_eq_getElem (by rw[revK_length];exact hj)];rfl
 rw[←g1,e1,List.getElem_set]
 by_cases q1:xs.length-1-k=j
 ·rw[if_pos q1,if_pos (by omega)]
  congr 1
  omega
 ·rw[if_neg q1,List.getElem_set]
  by_cases q2:k=j
  ·rw[if_pos q2,if_pos (by omega)]
   congr 1
   omega
  ·rw[if_neg q2,←g0,e0]
   by_cases q3:j<k∨xs.length-k≤j
   ·rw[if_pos q3,if_pos (by omega)]
   ·rw[if_neg q3,if_neg (by omega)]
theorem revK_done (xs:List Int) {k:Nat} (hk:xs.length≤2*k+1):revK xs k=xs.reverse:=by
 refine List.ext_getElem (by simp[revK]) fun j h1 h2=>?_
 have hj:j<xs.length:=by rw[revK_length] at h1;exact h1
 have e0:=revK_at xs k hj
 have g0:nth (revK xs k) j=(revK xs k)[j]:=by unfold nth;rw[List.getD_eq_getElem?_getD,List.getElem?_eq_getElem h1];rfl
 rw[←g0,e0,List.getElem_reverse]
 have g2:nth xs (xs.length-1-j)=xs[xs.length-1-j]'(by omega):=by unfold nth;rw[List.getD_eq_getElem?_getD,List.getElem?_eq_getElem (by omega)];rfl
 by_cases q3:j<k∨xs.length-k≤j
 ·rw[if_pos q3,g2]
 ·rw[if_neg q3,←g2]
  congr 1
  omega
def RetRev (R0:Reg) (w0:World) (R:Reg) (w:World) (v:Value) (zs:List Int) (e:Ending) (w':World):Prop:=
 e=.returned (.tuple #[])∧Ev R0 w0 R w'∧w.grownBy w' v.ownBlock∧OwnI R w0.heap.size 3 w' v zs
set_option maxRecDepth 100000 in
set_option maxHeartbeats 2000000 in
theorem reverse_any (R0:Reg) (w0:World) (R:Reg) (w:World) (he:Ev R0 w0 R w) (a:Option Addr) (n cap:Nat) (xs:List Int) (ho:OwnI R w0.heap.size 3 w (.slice a n cap) xs) (hx:xs.length=n) (hn:n≤8388607):
  Calls Tryz.prog 77 #[.slice a n cap] w (RetRev R0 w0 R w (.slice a n cap) xs.reverse):=by
 have HE:=Lib.hid he
 have HO:=Lib.hid ho
 have HL:=Lib.hid hx
 clear he ho hx
 go_enter Tryz.func77,Tryz.ntmps77
 go_wp2_with fail
 go_loopg [2,3] n (fun g v2 v3 wr=>∃ (k:Nat),2*k≤n+1∧n-2*k≤g∧v2=.int .i64 (k:Int)∧v3=.int .i64 ((n:Int)-1-(k:Int))∧Ev R0 w0 R wr∧w.grownBy wr (Value.slice a n cap).ownBlock∧OwnI R w0.heap.size 3 wr (.slice a n cap) (revK xs k))
 case atStart=>exact⟨0,by omega,by omega,rfl,by simp,HE.out,World.grownBy.refl _ _,by rw[revK_zero];exact HO.out⟩
 case round=>
  obtain⟨k,hk,hg,rfl,rfl,hev,hgr,hok⟩:=hrel
  by_cases hlt:2*k+1<n
  ·have hlen:=(revK_length xs k).trans HL.out
   obtain⟨g,rfl,hB,hR,hc0,hf0⟩:=hok.headAt hlen (i:=k) (by omega)
   obtain⟨_,e,_,_,hc1,hf1⟩:=hok.headAt hlen (i:=n-1-k) (by omega)
   cases e
   obtain⟨j,hj⟩:∃ j,n-1-k=j:=⟨_,rfl⟩
   have hji:(n:Int)-1-(k:Int)=(j:Int):=by omega
   have hkn:k<n:=by omega
   have hjn:j<n:=by omega
   have hkj:(k:Int)<(j:Int):=by omega
   have hne:k≠j:=by omega
   have e0:=revK_at xs k (j:=k) (by rw[HL.out];exact hkn)
   rw[if_neg (by rw[HL.out];omega)] at e0
   have e1:=revK_at xs k (j:=j) (by rw[HL.out];exact hjn)
   rw[if_neg (by rw[HL.out];omega)] at e1
   have hst:=revK_step xs (k:=k) (by rw[HL.out];exact hlt)
   rw[HL.out,hj] at hst
   rw[hj] at hc1 hf1
   rw[e0] at hc0
   rw[e1] at hc1
   obtain⟨x,hx⟩:∃ x,nth xs k=x:=⟨_,rfl⟩
   obtain⟨y,hy⟩:∃ y,nth xs j=y:=⟨_,rfl⟩
   rw[hx] at hc0 hst
   rw[hy] at hc1 hst
   rw[hji]
   have HST:=Lib.hid hst
   have HEV:=Lib.hid hev
   have HGR:=Lib.hid hgr
   have HOK:=Lib.hid hok
   have hp1:=hok.put hlen k hkn y
   have hp2:=hp1.put (by rw[List.length_set];exact hlen) j hjn x
   rw[hst] at hp2
   have HP2:=Lib.hid hp2
   have hE2:=Lib.hid ((hev.setCell (p:=⟨g,k,none⟩) hB hR (.int .i64 y)).setCell (p:=⟨g,j,none⟩) hB hR (.int .i64 x))
   have hG2:=Lib.hid (show w.grownBy ((wr.setCell ⟨g,k,none⟩ (.int .i64 y)).setCell ⟨g,j,none⟩ (.int .i64 x)) (some g) from World.grownBy.trans (World.grownBy.trans hgr (Lib.grownBy_setCell _ _ _ _)) (Lib.grownBy_setCell _ _ _ _))
   have hc1':(wr.setCell ⟨g,k,none⟩ (.int .i64 y)).cell? ⟨g,j,none⟩=some (.int .i64 y):=by
    rw[World.cell?_setCell_other _ _ _ _ (fun e=>hne (by cases e;rfl))];exact hc1
   clear hst hev hgr hok hp1 hp2 e0 e1 hx hy hj hlen hk
   go_upto_region 3 with fail
   have mixed:Tryz.prog.follows Departure.mixedOrders=true:=by kernel_rfl
   go_region_o
   go_wp2_with fail
   go_roundg (n-2*(k+1))
   case measure=>omega
   case rel=>exact⟨k+1,by omega,by omega,by simp,by congr 1;omega,hE2.out.drew,World.grownBy.trans hG2.out ⟨rfl,rfl,rfl,Nat.le_refl _,fun _ _ _=>rfl⟩,HP2.out.drew⟩
  ·have hdn:=revK_done xs (k:=k) (by rw[HL.out];omega)
   rw[hdn] at hok
   have hnl:¬ (k:Int)<(n:Int)-1-(k:Int):=by omega
   go_wp2_with fail
   go_end0
   exact⟨rfl,hev,hgr,hok⟩
end
end Go.Proofs.YtgphnkkdmlohlaaGreatDoor
