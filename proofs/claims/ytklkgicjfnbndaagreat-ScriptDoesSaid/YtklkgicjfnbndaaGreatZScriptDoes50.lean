/- parquetryref24.Do: of any kind, at any darts. Conditions: the map is one that dart.New takes, of at most 99000 darts, with a star's. -/
import Derived.Test.YtklkgicjfnbndaaGreatZScriptDoes44
import Derived.Test.YtklkgicjfnbndaaGreatZScriptDoes26
import Derived.Test.YtklkgicjfnbndaaGreatZScriptDoes48
import Derived.Test.YtklkgicjfnbndaaGreatZScriptDoes30
import Derived.Test.YtklkgicjfnbndaaGreatZScriptDoes40
import Derived.Deep.RegionHeld
namespace Go.Proofs.YtklkgicjfnbndaaGreat
open Go.RowKit
set_option linter.unusedVariables false
set_option linter.unusedSimpArgs false
def RetD (R:Reg) (w:World) (v0:Value) (L:List Nat) (rt ln c:Int) (z:Ending) (w2:World):Prop:=
 ∃ v,z=.returned (.tuple #[refV v rt ln,.int .i64 c])∧Ev R w R w2∧FreeI R w2 v (toI L)∧∀ k,v.ownBlock=some k→v0.ownBlock=some k∨(w.heap.size≤k∧k<w2.heap.size)
set_option maxRecDepth 100000 in
set_option maxHeartbeats 2000000 in
theorem y_opt (R:Reg) (w:World) (hI:Inv R w) (v:Value) (s:List Nat) (root lone:Int) (hv:FreeI R w v (toI s)) (hS:IsPerm s) (hn:s.length≤99000) (hev:s.length % 2=0) (k d e:Int) (hk:k<0∨10<k):
  Calls Tryz.prog 38 #[refV v root lone,.int .i64 k,.int .i64 d,.int .i64 e] w (RetD R w v s root lone 15):=by
 obtain⟨a0,c0,rfl,_⟩:=hv.open
 rw[toI_length] at hv ⊢
 unfold refV
 have he0:Ev R w R (w.alloc (.cells #[.slice a0 s.length c0,.int .i64 root,.int .i64 lone] 27)):=(Ev.refl hI).alloc _
 have he01:Ev R (w.alloc (.cells #[.slice a0 s.length c0,.int .i64 root,.int .i64 lone] 27)) R ((w.alloc (.cells #[.slice a0 s.length c0,.int .i64 root,.int .i64 lone] 27)).alloc (.cells #[.slice none 0 0,.int .i64 0,.int .i64 0] 27)):=(Ev.refl he0.inv).alloc _
 have he1:Ev R w R ((w.alloc (.cells #[.slice a0 s.length c0,.int .i64 root,.int .i64 lone] 27)).alloc (.cells #[.slice none 0 0,.int .i64 0,.int .i64 0] 27)):=he0.trans he01
 have hn1:R w.heap.size=none:=hI.none_of_ge (Nat.le_refl _)
 have hB1:=fun w' (h:Ev R ((w.alloc (.cells #[.slice a0 s.length c0,.int .i64 root,.int .i64 lone] 27)).alloc (.cells #[.slice none 0 0,.int .i64 0,.int .i64 0] 27)) R w')=>(he01.trans h).boxC3 (heap_alloc_new w _) hn1
 have hB2:=fun w' (h:Ev R ((w.alloc (.cells #[.slice a0 s.length c0,.int .i64 root,.int .i64 lone] 27)).alloc (.cells #[.slice none 0 0,.int .i64 0,.int .i64 0] 27)) R w')=>h.boxC3 (heap_alloc_new (w.alloc (.cells #[.slice a0 s.length c0,.int .i64 root,.int .i64 lone] 27)) (.cells #[.slice none 0 0,.int .i64 0,.int .i64 0] 27)) (he0.inv.none_of_ge (Nat.le_refl _))
 have hza:((w.alloc (.cells #[.slice a0 s.length c0,.int .i64 root,.int .i64 lone] 27)).alloc (.cells #[.slice none 0 0,.int .i64 0,.int .i64 0] 27)).heap.size=w.heap.size+2:=by simp
 rw[World.size_alloc] at hB2
 obtain⟨n,hnn⟩:∃ n,s.length=n:=⟨_,rfl⟩
 have HNn:=Lib.hid hnn
 rw[hnn] at he0 he01 he1 hB1 hB2 hn hev hza ⊢
 have HHv:=Lib.hid hv
 have HSp:=Lib.hid hS
 clear hv hnn hS
 go_enter Tryz.func38,Tryz.ntmps38
 go_upto_region 1 with fail
 obtain⟨wa,hwa⟩:∃ wa,(w.alloc (.cells #[.slice a0 n c0,.int .i64 root,.int .i64 lone] 27)).alloc (.cells #[.slice none 0 0,.int .i64 0,.int .i64 0] 27)=wa:=⟨_,rfl⟩
 try rw[hwa] at he1 hB1 hB2 hza ⊢
 have HB1:=Lib.hid (fun w' (h:Ev R wa R w')=>boxC_cells (hB1 w' h).1)
 have HB2:=Lib.hid hB2
 have HZa:=Lib.hid hza
 have HEa:=Lib.hid he1
 have HE0:=Lib.hid (Ev.refl he1.inv)
 obtain⟨x0,x1,x2,_⟩:=HB1.out _ (Ev.refl he1.inv)
 obtain⟨y0,y1,y2,yz⟩:=boxC_cells (HB2.out _ (Ev.refl he1.inv)).1
 clear he0 he01 he1 hB1 hB2 hza hwa hn1 hI
 rcases hk with h1|h1
 ·have b1:decide (k<0)=true:=decide_eq_true h1
  go_wp2_with fail
  have hb3:=set3 (x:=.slice a0 n c0) (y:=.int .i64 (root)) (z:=.int .i64 (lone)) (HB2.out _ HE0.out).1
  obtain⟨u0,u1,u2,_⟩:=boxC_cells hb3
  have hn2:=(HB2.out _ HE0.out).2
  have hfin:=(((HEa.out.trans HE0.out).setCell (p:=⟨w.heap.size+1,0,none⟩) (by simp) hn2 (.slice a0 n c0)).setCell (p:=⟨w.heap.size+1,1,none⟩) (by simp) hn2 (.int .i64 (root))).setCell (p:=⟨w.heap.size+1,2,none⟩) (by simp) hn2 (.int .i64 (lone))
  refine bodyPost_ret (v:=.tuple #[refV (.slice a0 n c0) (root) (lone),.int .i64 15]) ?_ rfl ⟨.slice a0 n c0,rfl,hfin,?_,fun k e=>Or.inl e⟩
  ·simp[results,Tryz.results38,go_sem,u0,u1,u2,refV]
  ·have:=HHv.out.ev hfin
   rwa [HNn.out] at this
 ·have b1:decide (k<0)=false:=decide_eq_false (by omega)
  have b2:decide (10<k)=true:=decide_eq_true h1
  go_wp2_with fail
  have hb3:=set3 (x:=.slice a0 n c0) (y:=.int .i64 (root)) (z:=.int .i64 (lone)) (HB2.out _ HE0.out).1
  obtain⟨u0,u1,u2,_⟩:=boxC_cells hb3
  have hn2:=(HB2.out _ HE0.out).2
  have hfin:=(((HEa.out.trans HE0.out).setCell (p:=⟨w.heap.size+1,0,none⟩) (by simp) hn2 (.slice a0 n c0)).setCell (p:=⟨w.heap.size+1,1,none⟩) (by simp) hn2 (.int .i64 (root))).setCell (p:=⟨w.heap.size+1,2,none⟩) (by simp) hn2 (.int .i64 (lone))
  refine bodyPost_ret (v:=.tuple #[refV (.slice a0 n c0) (root) (lone),.int .i64 15]) ?_ rfl ⟨.slice a0 n c0,rfl,hfin,?_,fun k e=>Or.inl e⟩
  ·simp[results,Tryz.results38,go_sem,u0,u1,u2,refV]
  ·have:=HHv.out.ev hfin
   rwa [HNn.out] at this
set_option maxRecDepth 100000 in
set_option maxHeartbeats 2000000 in
theorem y_root (R:Reg) (w:World) (hI:Inv R w) (v:Value) (s:List Nat) (root lone:Int) (hv:FreeI R w v (toI s)) (hS:IsPerm s) (hn:s.length≤99000) (hev:s.length % 2=0) (d e:Int) (hd:0≤d∧d<s.length):
  Calls Tryz.prog 38 #[refV v root lone,.int .i64 5,.int .i64 d,.int .i64 e] w (RetD R w v s d lone 0):=by
 obtain⟨a0,c0,rfl,_⟩:=hv.open
 rw[toI_length] at hv ⊢
 unfold refV
 have he0:Ev R w R (w.alloc (.cells #[.slice a0 s.length c0,.int .i64 root,.int .i64 lone] 27)):=(Ev.refl hI).alloc _
 have he01:Ev R (w.alloc (.cells #[.slice a0 s.length c0,.int .i64 root,.int .i64 lone] 27)) R ((w.alloc (.cells #[.slice a0 s.length c0,.int .i64 root,.int .i64 lone] 27)).alloc (.cells #[.slice none 0 0,.int .i64 0,.int .i64 0] 27)):=(Ev.refl he0.inv).alloc _
 have he1:Ev R w R ((w.alloc (.cells #[.slice a0 s.length c0,.int .i64 root,.int .i64 lone] 27)).alloc (.cells #[.slice none 0 0,.int .i64 0,.int .i64 0] 27)):=he0.trans he01
 have hn1:R w.heap.size=none:=hI.none_of_ge (Nat.le_refl _)
 have hB1:=fun w' (h:Ev R ((w.alloc (.cells #[.slice a0 s.length c0,.int .i64 root,.int .i64 lone] 27)).alloc (.cells #[.slice none 0 0,.int .i64 0,.int .i64 0] 27)) R w')=>(he01.trans h).boxC3 (heap_alloc_new w _) hn1
 have hB2:=fun w' (h:Ev R ((w.alloc (.cells #[.slice a0 s.length c0,.int .i64 root,.int .i64 lone] 27)).alloc (.cells #[.slice none 0 0,.int .i64 0,.int .i64 0] 27)) R w')=>h.boxC3 (heap_alloc_new (w.alloc (.cells #[.slice a0 s.length c0,.int .i64 root,.int .i64 lone] 27)) (.cells #[.slice none 0 0,.int .i64 0,.int .i64 0] 27)) (he0.inv.none_of_ge (Nat.le_refl _))
 have hza:((w.alloc (.cells #[.slice a0 s.length c0,.int .i64 root,.int .i64 lone] 27)).alloc (.cells #[.slice none 0 0,.int .i64 0,.int .i64 0] 27)).heap.size=w.heap.size+2:=by simp
 rw[World.size_alloc] at hB2
 obtain⟨n,hnn⟩:∃ n,s.length=n:=⟨_,rfl⟩
 have HNn:=Lib.hid hnn
 rw[hnn] at he0 he01 he1 hB1 hB2 hn hev hza ⊢
 rw[HNn.out] at hd
 have HHv:=Lib.hid hv
 have HSp:=Lib.hid hS
 clear hv hnn hS
 go_enter Tryz.func38,Tryz.ntmps38
 go_upto_region 1 with fail
 obtain⟨wa,hwa⟩:∃ wa,(w.alloc (.cells #[.slice a0 n c0,.int .i64 root,.int .i64 lone] 27)).alloc (.cells #[.slice none 0 0,.int .i64 0,.int .i64 0] 27)=wa:=⟨_,rfl⟩
 try rw[hwa] at he1 hB1 hB2 hza ⊢
 have HB1:=Lib.hid (fun w' (h:Ev R wa R w')=>boxC_cells (hB1 w' h).1)
 have HB2:=Lib.hid hB2
 have HZa:=Lib.hid hza
 have HEa:=Lib.hid he1
 have HE0:=Lib.hid (Ev.refl he1.inv)
 obtain⟨x0,x1,x2,_⟩:=HB1.out _ (Ev.refl he1.inv)
 obtain⟨y0,y1,y2,yz⟩:=boxC_cells (HB2.out _ (Ev.refl he1.inv)).1
 clear he0 he01 he1 hB1 hB2 hza hwa hn1 hI
 have b1:decide (d<0)=false:=decide_eq_false (by omega)
 have b2:decide ((n:Int)≤d)=false:=decide_eq_false (by omega)
 go_wp2_with fail
 have hb3:=set3 (x:=.slice a0 n c0) (y:=.int .i64 (d)) (z:=.int .i64 (lone)) (HB2.out _ HE0.out).1
 obtain⟨u0,u1,u2,_⟩:=boxC_cells hb3
 have hn2:=(HB2.out _ HE0.out).2
 have hfin:=(((HEa.out.trans HE0.out).setCell (p:=⟨w.heap.size+1,0,none⟩) (by simp) hn2 (.slice a0 n c0)).setCell (p:=⟨w.heap.size+1,1,none⟩) (by simp) hn2 (.int .i64 (d))).setCell (p:=⟨w.heap.size+1,2,none⟩) (by simp) hn2 (.int .i64 (lone))
 refine bodyPost_ret (v:=.tuple #[refV (.slice a0 n c0) (d) (lone),.int .i64 0]) ?_ rfl ⟨.slice a0 n c0,rfl,hfin,?_,fun k e=>Or.inl e⟩
 ·simp[results,Tryz.results38,go_sem,u0,u1,u2,refV]
 ·have:=HHv.out.ev hfin
  rwa [HNn.out] at this
set_option maxRecDepth 100000 in
set_option maxHeartbeats 2000000 in
theorem y_noroot (R:Reg) (w:World) (hI:Inv R w) (v:Value) (s:List Nat) (root lone:Int) (hv:FreeI R w v (toI s)) (hS:IsPerm s) (hn:s.length≤99000) (hev:s.length % 2=0) (d e:Int) (hd:d<0∨s.length≤d):
  Calls Tryz.prog 38 #[refV v root lone,.int .i64 5,.int .i64 d,.int .i64 e] w (RetD R w v s root lone 5):=by
 obtain⟨a0,c0,rfl,_⟩:=hv.open
 rw[toI_length] at hv ⊢
 unfold refV
 have he0:Ev R w R (w.alloc (.cells #[.slice a0 s.length c0,.int .i64 root,.int .i64 lone] 27)):=(Ev.refl hI).alloc _
 have he01:Ev R (w.alloc (.cells #[.slice a0 s.length c0,.int .i64 root,.int .i64 lone] 27)) R ((w.alloc (.cells #[.slice a0 s.length c0,.int .i64 root,.int .i64 lone] 27)).alloc (.cells #[.slice none 0 0,.int .i64 0,.int .i64 0] 27)):=(Ev.refl he0.inv).alloc _
 have he1:Ev R w R ((w.alloc (.cells #[.slice a0 s.length c0,.int .i64 root,.int .i64 lone] 27)).alloc (.cells #[.slice none 0 0,.int .i64 0,.int .i64 0] 27)):=he0.trans he01
 have hn1:R w.heap.size=none:=hI.none_of_ge (Nat.le_refl _)
 have hB1:=fun w' (h:Ev R ((w.alloc (.cells #[.slice a0 s.length c0,.int .i64 root,.int .i64 lone] 27)).alloc (.cells #[.slice none 0 0,.int .i64 0,.int .i64 0] 27)) R w')=>(he01.trans h).boxC3 (heap_alloc_new w _) hn1
 have hB2:=fun w' (h:Ev R ((w.alloc (.cells #[.slice a0 s.length c0,.int .i64 root,.int .i64 lone] 27)).alloc (.cells #[.slice none 0 0,.int .i64 0,.int .i64 0] 27)) R w')=>h.boxC3 (heap_alloc_new (w.alloc (.cells #[.slice a0 s.length c0,.int .i64 root,.int .i64 lone] 27)) (.cells #[.slice none 0 0,.int .i64 0,.int .i64 0] 27)) (he0.inv.none_of_ge (Nat.le_refl _))
 have hza:((w.alloc (.cells #[.slice a0 s.length c0,.int .i64 root,.int .i64 lone] 27)).alloc (.cells #[.slice none 0 0,.int .i64 0,.int .i64 0] 27)).heap.size=w.heap.size+2:=by simp
 rw[World.size_alloc] at hB2
 obtain⟨n,hnn⟩:∃ n,s.length=n:=⟨_,rfl⟩
 have HNn:=Lib.hid hnn
 rw[hnn] at he0 he01 he1 hB1 hB2 hn hev hza ⊢
 rw[HNn.out] at hd
 have HHv:=Lib.hid hv
 have HSp:=Lib.hid hS
 clear hv hnn hS
 go_enter Tryz.func38,Tryz.ntmps38
 go_upto_region 1 with fail
 obtain⟨wa,hwa⟩:∃ wa,(w.alloc (.cells #[.slice a0 n c0,.int .i64 root,.int .i64 lone] 27)).alloc (.cells #[.slice none 0 0,.int .i64 0,.int .i64 0] 27)=wa:=⟨_,rfl⟩
 try rw[hwa] at he1 hB1 hB2 hza ⊢
 have HB1:=Lib.hid (fun w' (h:Ev R wa R w')=>boxC_cells (hB1 w' h).1)
 have HB2:=Lib.hid hB2
 have HZa:=Lib.hid hza
 have HEa:=Lib.hid he1
 have HE0:=Lib.hid (Ev.refl he1.inv)
 obtain⟨x0,x1,x2,_⟩:=HB1.out _ (Ev.refl he1.inv)
 obtain⟨y0,y1,y2,yz⟩:=boxC_cells (HB2.out _ (Ev.refl he1.inv)).1
 clear he0 he01 he1 hB1 hB2 hza hwa hn1 hI
 rcases hd with h1|h1
 ·have b1:decide (d<0)=true:=decide_eq_true h1
  go_wp2_with fail
  have hb3:=set3 (x:=.slice a0 n c0) (y:=.int .i64 (root)) (z:=.int .i64 (lone)) (HB2.out _ HE0.out).1
  obtain⟨u0,u1,u2,_⟩:=boxC_cells hb3
  have hn2:=(HB2.out _ HE0.out).2
  have hfin:=(((HEa.out.trans HE0.out).setCell (p:=⟨w.heap.size+1,0,none⟩) (by simp) hn2 (.slice a0 n c0)).setCell (p:=⟨w.heap.size+1,1,none⟩) (by simp) hn2 (.int .i64 (root))).setCell (p:=⟨w.heap.size+1,2,none⟩) (by simp) hn2 (.int .i64 (lone))
  refine bodyPost_ret (v:=.tuple #[refV (.slice a0 n c0) (root) (lone),.int .i64 5]) ?_ rfl ⟨.slice a0 n c0,rfl,hfin,?_,fun k e=>Or.inl e⟩
  ·simp[results,Tryz.results38,go_sem,u0,u1,u2,refV]
  ·have:=HHv.out.ev hfin
   rwa [HNn.out] at this
 ·by_cases h0:d<0
  ·omega
  ·have b1:decide (d<0)=false:=decide_eq_false h0
   have b2:decide ((n:Int)≤d)=true:=decide_eq_true h1
   go_wp2_with fail
   have hb3:=set3 (x:=.slice a0 n c0) (y:=.int .i64 (root)) (z:=.int .i64 (lone)) (HB2.out _ HE0.out).1
   obtain⟨u0,u1,u2,_⟩:=boxC_cells hb3
   have hn2:=(HB2.out _ HE0.out).2
   have hfin:=(((HEa.out.trans HE0.out).setCell (p:=⟨w.heap.size+1,0,none⟩) (by simp) hn2 (.slice a0 n c0)).setCell (p:=⟨w.heap.size+1,1,none⟩) (by simp) hn2 (.int .i64 (root))).setCell (p:=⟨w.heap.size+1,2,none⟩) (by simp) hn2 (.int .i64 (lone))
   refine bodyPost_ret (v:=.tuple #[refV (.slice a0 n c0) (root) (lone),.int .i64 5]) ?_ rfl ⟨.slice a0 n c0,rfl,hfin,?_,fun k e=>Or.inl e⟩
   ·simp[results,Tryz.results38,go_sem,u0,u1,u2,refV]
   ·have:=HHv.out.ev hfin
    rwa [HNn.out] at this
set_option maxRecDepth 100000 in
set_option maxHeartbeats 2000000 in
theorem y_dual (R:Reg) (w:World) (hI:Inv R w) (v:Value) (s:List Nat) (root lone:Int) (hv:FreeI R w v (toI s)) (hS:IsPerm s) (hn:s.length≤99000) (hev:s.length % 2=0) (d e:Int):
  Calls Tryz.prog 38 #[refV v root lone,.int .i64 6,.int .i64 d,.int .i64 e] w (RetD R w v (phiL s) (root) lone 0):=by
 obtain⟨a0,c0,rfl,_⟩:=hv.open
 rw[toI_length] at hv ⊢
 unfold refV
 have he0:Ev R w R (w.alloc (.cells #[.slice a0 s.length c0,.int .i64 root,.int .i64 lone] 27)):=(Ev.refl hI).alloc _
 have he01:Ev R (w.alloc (.cells #[.slice a0 s.length c0,.int .i64 root,.int .i64 lone] 27)) R ((w.alloc (.cells #[.slice a0 s.length c0,.int .i64 root,.int .i64 lone] 27)).alloc (.cells #[.slice none 0 0,.int .i64 0,.int .i64 0] 27)):=(Ev.refl he0.inv).alloc _
 have he1:Ev R w R ((w.alloc (.cells #[.slice a0 s.length c0,.int .i64 root,.int .i64 lone] 27)).alloc (.cells #[.slice none 0 0,.int .i64 0,.int .i64 0] 27)):=he0.trans he01
 have hn1:R w.heap.size=none:=hI.none_of_ge (Nat.le_refl _)
 have hB1:=fun w' (h:Ev R ((w.alloc (.cells #[.slice a0 s.length c0,.int .i64 root,.int .i64 lone] 27)).alloc (.cells #[.slice none 0 0,.int .i64 0,.int .i64 0] 27)) R w')=>(he01.trans h).boxC3 (heap_alloc_new w _) hn1
 have hB2:=fun w' (h:Ev R ((w.alloc (.cells #[.slice a0 s.length c0,.int .i64 root,.int .i64 lone] 27)).alloc (.cells #[.slice none 0 0,.int .i64 0,.int .i64 0] 27)) R w')=>h.boxC3 (heap_alloc_new (w.alloc (.cells #[.slice a0 s.length c0,.int .i64 root,.int .i64 lone] 27)) (.cells #[.slice none 0 0,.int .i64 0,.int .i64 0] 27)) (he0.inv.none_of_ge (Nat.le_refl _))
 have hza:((w.alloc (.cells #[.slice a0 s.length c0,.int .i64 root,.int .i64 lone] 27)).alloc (.cells #[.slice none 0 0,.int .i64 0,.int .i64 0] 27)).heap.size=w.heap.size+2:=by simp
 rw[World.size_alloc] at hB2
 obtain⟨n,hnn⟩:∃ n,s.length=n:=⟨_,rfl⟩
 have HNn:=Lib.hid hnn
 rw[hnn] at he0 he01 he1 hB1 hB2 hn hev hza ⊢
 have HHv:=Lib.hid hv
 have HSp:=Lib.hid hS
 clear hv hnn hS
 go_enter Tryz.func38,Tryz.ntmps38
 go_upto_region 1 with fail
 obtain⟨wa,hwa⟩:∃ wa,(w.alloc (.cells #[.slice a0 n c0,.int .i64 root,.int .i64 lone] 27)).alloc (.cells #[.slice none 0 0,.int .i64 0,.int .i64 0] 27)=wa:=⟨_,rfl⟩
 try rw[hwa] at he1 hB1 hB2 hza ⊢
 have HB1:=Lib.hid (fun w' (h:Ev R wa R w')=>boxC_cells (hB1 w' h).1)
 have HB2:=Lib.hid hB2
 have HZa:=Lib.hid hza
 have HEa:=Lib.hid he1
 have HE0:=Lib.hid (Ev.refl he1.inv)
 obtain⟨x0,x1,x2,_⟩:=HB1.out _ (Ev.refl he1.inv)
 obtain⟨y0,y1,y2,yz⟩:=boxC_cells (HB2.out _ (Ev.refl he1.inv)).1
 clear he0 he01 he1 hB1 hB2 hza hwa hn1 hI
 have hca:=r10dual_any R wa HE0.out.inv (.slice a0 s.length c0) s root lone (HHv.out.ev HEa.out) HSp.out (by rw[HNn.out];omega) (by rw[HNn.out];exact hev)
 rw[HNn.out] at hca
 unfold refV at hca
 have HCa:=Lib.hid hca
 clear hca
 go_wp2_with fail
 refine HCa.out.mono ?_
 rintro z w2 ⟨af,cf,rfl,he2,hof⟩
 have HE2:=Lib.hid he2
 have HOf:=Lib.hid hof
 have HSf:=Lib.hid (Nat.le_refl wa.heap.size)
 clear he2 hof x0 x1 x2 y0 y1 y2 yz
 simp only[refV]
 obtain⟨y0,y1,y2,yz⟩:=boxC_cells (HB2.out _ HE2.out).1
 obtain⟨lf,hlf⟩:∃ l,(phiL s).length=l:=⟨_,rfl⟩
 rw[hlf] at HOf
 try rw[hlf]
 clear hlf
 go_wp2_with fail
 have hb3:=set3 (x:=.slice af lf cf) (y:=.int .i64 (root)) (z:=.int .i64 (lone)) (HB2.out _ HE2.out).1
 obtain⟨u0,u1,u2,_⟩:=boxC_cells hb3
 have hn2:=(HB2.out _ HE2.out).2
 have hne:∀ (o:Nat),(Value.slice af lf cf).ownBlock≠some (⟨w.heap.size+1,o,none⟩:Addr).block:=fun o e'=>by
  have h1:=(HOf.out.lt _ e').1
  have h2:=HZa.out
  have h4:=HSf.out
  have h3:(⟨w.heap.size+1,o,none⟩:Addr).block=w.heap.size+1:=rfl
  omega
 refine bodyPost_ret (v:=.tuple #[refV (.slice af lf cf) (root) (lone),.int .i64 0]) ?_ rfl ⟨.slice af lf cf,rfl,?_,?_,fun k e=>Or.inr ⟨by have:=(HOf.out.lt _ e).1;have:=HZa.out;have:=HSf.out;omega,by simp only[World.size_setCell];exact (HOf.out.lt _ e).2⟩⟩
 ·simp[results,Tryz.results38,go_sem,u0,u1,u2,refV]
 ·exact (((HEa.out.trans HE2.out).setCell (by simp) hn2 _).setCell (by simp) hn2 _).setCell (by simp) hn2 _
 ·exact ((((HOf.out).setCell (hne 0) _).setCell (hne 1) _).setCell (hne 2) _).free
set_option maxRecDepth 100000 in
set_option maxHeartbeats 2000000 in
theorem y_mirror (R:Reg) (w:World) (hI:Inv R w) (v:Value) (s:List Nat) (root lone:Int) (hv:FreeI R w v (toI s)) (hS:IsPerm s) (hn:s.length≤99000) (hev:s.length % 2=0) (d e:Int):
  Calls Tryz.prog 38 #[refV v root lone,.int .i64 7,.int .i64 d,.int .i64 e] w (RetD R w v (invL s) (root) lone 0):=by
 obtain⟨a0,c0,rfl,_⟩:=hv.open
 rw[toI_length] at hv ⊢
 unfold refV
 have he0:Ev R w R (w.alloc (.cells #[.slice a0 s.length c0,.int .i64 root,.int .i64 lone] 27)):=(Ev.refl hI).alloc _
 have he01:Ev R (w.alloc (.cells #[.slice a0 s.length c0,.int .i64 root,.int .i64 lone] 27)) R ((w.alloc (.cells #[.slice a0 s.length c0,.int .i64 root,.int .i64 lone] 27)).alloc (.cells #[.slice none 0 0,.int .i64 0,.int .i64 0] 27)):=(Ev.refl he0.inv).alloc _
 have he1:Ev R w R ((w.alloc (.cells #[.slice a0 s.length c0,.int .i64 root,.int .i64 lone] 27)).alloc (.cells #[.slice none 0 0,.int .i64 0,.int .i64 0] 27)):=he0.trans he01
 have hn1:R w.heap.size=none:=hI.none_of_ge (Nat.le_refl _)
 have hB1:=fun w' (h:Ev R ((w.alloc (.cells #[.slice a0 s.length c0,.int .i64 root,.int .i64 lone] 27)).alloc (.cells #[.slice none 0 0,.int .i64 0,.int .i64 0] 27)) R w')=>(he01.trans h).boxC3 (heap_alloc_new w _) hn1
 have hB2:=fun w' (h:Ev R ((w.alloc (.cells #[.slice a0 s.length c0,.int .i64 root,.int .i64 lone] 27)).alloc (.cells #[.slice none 0 0,.int .i64 0,.int .i64 0] 27)) R w')=>h.boxC3 (heap_alloc_new (w.alloc (.cells #[.slice a0 s.length c0,.int .i64 root,.int .i64 lone] 27)) (.cells #[.slice none 0 0,.int .i64 0,.int .i64 0] 27)) (he0.inv.none_of_ge (Nat.le_refl _))
 have hza:((w.alloc (.cells #[.slice a0 s.length c0,.int .i64 root,.int .i64 lone] 27)).alloc (.cells #[.slice none 0 0,.int .i64 0,.int .i64 0] 27)).heap.size=w.heap.size+2:=by simp
 rw[World.size_alloc] at hB2
 obtain⟨n,hnn⟩:∃ n,s.length=n:=⟨_,rfl⟩
 have HNn:=Lib.hid hnn
 rw[hnn] at he0 he01 he1 hB1 hB2 hn hev hza ⊢
 have HHv:=Lib.hid hv
 have HSp:=Lib.hid hS
 clear hv hnn hS
 go_enter Tryz.func38,Tryz.ntmps38
 go_upto_region 1 with fail
 obtain⟨wa,hwa⟩:∃ wa,(w.alloc (.cells #[.slice a0 n c0,.int .i64 root,.int .i64 lone] 27)).alloc (.cells #[.slice none 0 0,.int .i64 0,.int .i64 0] 27)=wa:=⟨_,rfl⟩
 try rw[hwa] at he1 hB1 hB2 hza ⊢
 have HB1:=Lib.hid (fun w' (h:Ev R wa R w')=>boxC_cells (hB1 w' h).1)
 have HB2:=Lib.hid hB2
 have HZa:=Lib.hid hza
 have HEa:=Lib.hid he1
 have HE0:=Lib.hid (Ev.refl he1.inv)
 obtain⟨x0,x1,x2,_⟩:=HB1.out _ (Ev.refl he1.inv)
 obtain⟨y0,y1,y2,yz⟩:=boxC_cells (HB2.out _ (Ev.refl he1.inv)).1
 clear he0 he01 he1 hB1 hB2 hza hwa hn1 hI
 have hca:=r10mirror_any R wa HE0.out.inv (.slice a0 s.length c0) s root lone (HHv.out.ev HEa.out) HSp.out (by rw[HNn.out];omega) (by rw[HNn.out];exact hev)
 rw[HNn.out] at hca
 unfold refV at hca
 have HCa:=Lib.hid hca
 clear hca
 go_wp2_with fail
 refine HCa.out.mono ?_
 rintro z w2 ⟨af,cf,rfl,he2,hof⟩
 have HE2:=Lib.hid he2
 have HOf:=Lib.hid hof
 have HSf:=Lib.hid (Nat.le_refl wa.heap.size)
 clear he2 hof x0 x1 x2 y0 y1 y2 yz
 simp only[refV]
 obtain⟨y0,y1,y2,yz⟩:=boxC_cells (HB2.out _ HE2.out).1
 obtain⟨lf,hlf⟩:∃ l,(invL s).length=l:=⟨_,rfl⟩
 rw[hlf] at HOf
 try rw[hlf]
 clear hlf
 go_wp2_with fail
 have hb3:=set3 (x:=.slice af lf cf) (y:=.int .i64 (root)) (z:=.int .i64 (lone)) (HB2.out _ HE2.out).1
 obtain⟨u0,u1,u2,_⟩:=boxC_cells hb3
 have hn2:=(HB2.out _ HE2.out).2
 have hne:∀ (o:Nat),(Value.slice af lf cf).ownBlock≠some (⟨w.heap.size+1,o,none⟩:Addr).block:=fun o e'=>by
  have h1:=(HOf.out.lt _ e').1
  have h2:=HZa.out
  have h4:=HSf.out
  have h3:(⟨w.heap.size+1,o,none⟩:Addr).block=w.heap.size+1:=rfl
  omega
 refine bodyPost_ret (v:=.tuple #[refV (.slice af lf cf) (root) (lone),.int .i64 0]) ?_ rfl ⟨.slice af lf cf,rfl,?_,?_,fun k e=>Or.inr ⟨by have:=(HOf.out.lt _ e).1;have:=HZa.out;have:=HSf.out;omega,by simp only[World.size_setCell];exact (HOf.out.lt _ e).2⟩⟩
 ·simp[results,Tryz.results38,go_sem,u0,u1,u2,refV]
 ·exact (((HEa.out.trans HE2.out).setCell (by simp) hn2 _).setCell (by simp) hn2 _).setCell (by simp) hn2 _
 ·exact ((((HOf.out).setCell (hne 0) _).setCell (hne 1) _).setCell (hne 2) _).free
set_option maxRecDepth 100000 in
set_option maxHeartbeats 2000000 in
theorem y_canon (R:Reg) (w:World) (hI:Inv R w) (v:Value) (s:List Nat) (root lone:Int) (hv:FreeI R w v (toI s)) (hS:IsPerm s) (hn:s.length≤99000) (hev:s.length % 2=0) (hok:MapOk s root lone) (d e:Int):
  Calls Tryz.prog 38 #[refV v root lone,.int .i64 10,.int .i64 d,.int .i64 e] w (RetD R w v (canM s root) (canR s root) lone 0):=by
 obtain⟨a0,c0,rfl,_⟩:=hv.open
 rw[toI_length] at hv ⊢
 unfold refV
 have he0:Ev R w R (w.alloc (.cells #[.slice a0 s.length c0,.int .i64 root,.int .i64 lone] 27)):=(Ev.refl hI).alloc _
 have he01:Ev R (w.alloc (.cells #[.slice a0 s.length c0,.int .i64 root,.int .i64 lone] 27)) R ((w.alloc (.cells #[.slice a0 s.length c0,.int .i64 root,.int .i64 lone] 27)).alloc (.cells #[.slice none 0 0,.int .i64 0,.int .i64 0] 27)):=(Ev.refl he0.inv).alloc _
 have he1:Ev R w R ((w.alloc (.cells #[.slice a0 s.length c0,.int .i64 root,.int .i64 lone] 27)).alloc (.cells #[.slice none 0 0,.int .i64 0,.int .i64 0] 27)):=he0.trans he01
 have hn1:R w.heap.size=none:=hI.none_of_ge (Nat.le_refl _)
 have hB1:=fun w' (h:Ev R ((w.alloc (.cells #[.slice a0 s.length c0,.int .i64 root,.int .i64 lone] 27)).alloc (.cells #[.slice none 0 0,.int .i64 0,.int .i64 0] 27)) R w')=>(he01.trans h).boxC3 (heap_alloc_new w _) hn1
 have hB2:=fun w' (h:Ev R ((w.alloc (.cells #[.slice a0 s.length c0,.int .i64 root,.int .i64 lone] 27)).alloc (.cells #[.slice none 0 0,.int .i64 0,.int .i64 0] 27)) R w')=>h.boxC3 (heap_alloc_new (w.alloc (.cells #[.slice a0 s.length c0,.int .i64 root,.int .i64 lone] 27)) (.cells #[.slice none 0 0,.int .i64 0,.int .i64 0] 27)) (he0.inv.none_of_ge (Nat.le_refl _))
 have hza:((w.alloc (.cells #[.slice a0 s.length c0,.int .i64 root,.int .i64 lone] 27)).alloc (.cells #[.slice none 0 0,.int .i64 0,.int .i64 0] 27)).heap.size=w.heap.size+2:=by simp
 rw[World.size_alloc] at hB2
 obtain⟨n,hnn⟩:∃ n,s.length=n:=⟨_,rfl⟩
 have HNn:=Lib.hid hnn
 rw[hnn] at he0 he01 he1 hB1 hB2 hn hev hza ⊢
 have HHv:=Lib.hid hv
 have HSp:=Lib.hid hS
 clear hv hnn hS
 go_enter Tryz.func38,Tryz.ntmps38
 go_upto_region 1 with fail
 obtain⟨wa,hwa⟩:∃ wa,(w.alloc (.cells #[.slice a0 n c0,.int .i64 root,.int .i64 lone] 27)).alloc (.cells #[.slice none 0 0,.int .i64 0,.int .i64 0] 27)=wa:=⟨_,rfl⟩
 try rw[hwa] at he1 hB1 hB2 hza ⊢
 have HB1:=Lib.hid (fun w' (h:Ev R wa R w')=>boxC_cells (hB1 w' h).1)
 have HB2:=Lib.hid hB2
 have HZa:=Lib.hid hza
 have HEa:=Lib.hid he1
 have HE0:=Lib.hid (Ev.refl he1.inv)
 obtain⟨x0,x1,x2,_⟩:=HB1.out _ (Ev.refl he1.inv)
 obtain⟨y0,y1,y2,yz⟩:=boxC_cells (HB2.out _ (Ev.refl he1.inv)).1
 clear he0 he01 he1 hB1 hB2 hza hwa hn1 hI
 have hca:=r11canon_any R wa HE0.out.inv (.slice a0 s.length c0) s root lone (HHv.out.ev HEa.out) HSp.out hok (by rw[HNn.out];omega)
 rw[HNn.out] at hca
 unfold refV at hca
 have HCa:=Lib.hid hca
 clear hca
 go_wp2_with fail
 refine HCa.out.mono ?_
 rintro z w2 ⟨af,cf,rfl,he2,hof⟩
 have HE2:=Lib.hid he2
 have HOf:=Lib.hid hof
 have HSf:=Lib.hid (Nat.le_refl wa.heap.size)
 clear he2 hof x0 x1 x2 y0 y1 y2 yz
 simp only[refV]
 obtain⟨y0,y1,y2,yz⟩:=boxC_cells (HB2.out _ HE2.out).1
 obtain⟨lf,hlf⟩:∃ l,(canM s root).length=l:=⟨_,rfl⟩
 rw[hlf] at HOf
 try rw[hlf]
 clear hlf
 go_wp2_with fail
 have hb3:=set3 (x:=.slice af lf cf) (y:=.int .i64 (canR s root)) (z:=.int .i64 (lone)) (HB2.out _ HE2.out).1
 obtain⟨u0,u1,u2,_⟩:=boxC_cells hb3
 have hn2:=(HB2.out _ HE2.out).2
 have hne:∀ (o:Nat),(Value.slice af lf cf).ownBlock≠some (⟨w.heap.size+1,o,none⟩:Addr).block:=fun o e'=>by
  have h1:=(HOf.out.lt _ e').1
  have h2:=HZa.out
  have h4:=HSf.out
  have h3:(⟨w.heap.size+1,o,none⟩:Addr).block=w.heap.size+1:=rfl
  omega
 refine bodyPost_ret (v:=.tuple #[refV (.slice af lf cf) (canR s root) (lone),.int .i64 0]) ?_ rfl ⟨.slice af lf cf,rfl,?_,?_,fun k e=>Or.inr ⟨by have:=(HOf.out.lt _ e).1;have:=HZa.out;have:=HSf.out;omega,by simp only[World.size_setCell];exact (HOf.out.lt _ e).2⟩⟩
 ·simp[results,Tryz.results38,go_sem,u0,u1,u2,refV]
 ·exact (((HEa.out.trans HE2.out).setCell (by simp) hn2 _).setCell (by simp) hn2 _).setCell (by simp) hn2 _
 ·exact ((((HOf.out).setCell (hne 0) _).setCell (hne 1) _).setCell (hne 2) _).free
set_option maxRecDepth 100000 in
set_option maxHeartbeats 2000000 in
theorem y_out8 (R:Reg) (w:World) (hI:Inv R w) (v:Value) (s:List Nat) (root lone:Int) (hv:FreeI R w v (toI s)) (hS:IsPerm s) (hn:s.length≤99000) (hev:s.length % 2=0) (d e:Int) (hd:d<0∨s.length≤d):
  Calls Tryz.prog 38 #[refV v root lone,.int .i64 8,.int .i64 d,.int .i64 e] w (RetD R w v s root lone 1):=by
 obtain⟨a0,c0,rfl,_⟩:=hv.open
 rw[toI_length] at hv ⊢
 unfold refV
 have he0:Ev R w R (w.alloc (.cells #[.slice a0 s.length c0,.int .i64 root,.int .i64 lone] 27)):=(Ev.refl hI).alloc _
 have he01:Ev R (w.alloc (.cells #[.slice a0 s.length c0,.int .i64 root,.int .i64 lone] 27)) R ((w.alloc (.cells #[.slice a0 s.length c0,.int .i64 root,.int .i64 lone] 27)).alloc (.cells #[.slice none 0 0,.int .i64 0,.int .i64 0] 27)):=(Ev.refl he0.inv).alloc _
 have he1:Ev R w R ((w.alloc (.cells #[.slice a0 s.length c0,.int .i64 root,.int .i64 lone] 27)).alloc (.cells #[.slice none 0 0,.int .i64 0,.int .i64 0] 27)):=he0.trans he01
 have hn1:R w.heap.size=none:=hI.none_of_ge (Nat.le_refl _)
 have hB1:=fun w' (h:Ev R ((w.alloc (.cells #[.slice a0 s.length c0,.int .i64 root,.int .i64 lone] 27)).alloc (.cells #[.slice none 0 0,.int .i64 0,.int .i64 0] 27)) R w')=>(he01.trans h).boxC3 (heap_alloc_new w _) hn1
 have hB2:=fun w' (h:Ev R ((w.alloc (.cells #[.slice a0 s.length c0,.int .i64 root,.int .i64 lone] 27)).alloc (.cells #[.slice none 0 0,.int .i64 0,.int .i64 0] 27)) R w')=>h.boxC3 (heap_alloc_new (w.alloc (.cells #[.slice a0 s.length c0,.int .i64 root,.int .i64 lone] 27)) (.cells #[.slice none 0 0,.int .i64 0,.int .i64 0] 27)) (he0.inv.none_of_ge (Nat.le_refl _))
 have hza:((w.alloc (.cells #[.slice a0 s.length c0,.int .i64 root,.int .i64 lone] 27)).alloc (.cells #[.slice none 0 0,.int .i64 0,.int .i64 0] 27)).heap.size=w.heap.size+2:=by simp
 rw[World.size_alloc] at hB2
 obtain⟨n,hnn⟩:∃ n,s.length=n:=⟨_,rfl⟩
 have HNn:=Lib.hid hnn
 rw[hnn] at he0 he01 he1 hB1 hB2 hn hev hza ⊢
 rw[HNn.out] at hd
 have HHv:=Lib.hid hv
 have HSp:=Lib.hid hS
 clear hv hnn hS
 go_enter Tryz.func38,Tryz.ntmps38
 go_upto_region 1 with fail
 obtain⟨wa,hwa⟩:∃ wa,(w.alloc (.cells #[.slice a0 n c0,.int .i64 root,.int .i64 lone] 27)).alloc (.cells #[.slice none 0 0,.int .i64 0,.int .i64 0] 27)=wa:=⟨_,rfl⟩
 try rw[hwa] at he1 hB1 hB2 hza ⊢
 have HB1:=Lib.hid (fun w' (h:Ev R wa R w')=>boxC_cells (hB1 w' h).1)
 have HB2:=Lib.hid hB2
 have HZa:=Lib.hid hza
 have HEa:=Lib.hid he1
 have HE0:=Lib.hid (Ev.refl he1.inv)
 obtain⟨x0,x1,x2,_⟩:=HB1.out _ (Ev.refl he1.inv)
 obtain⟨y0,y1,y2,yz⟩:=boxC_cells (HB2.out _ (Ev.refl he1.inv)).1
 clear he0 he01 he1 hB1 hB2 hza hwa hn1 hI
 by_cases h0:d<0
 ·have b1:decide (d<0)=true:=decide_eq_true h0
  go_wp2_with fail
  have hb3:=set3 (x:=.slice a0 n c0) (y:=.int .i64 (root)) (z:=.int .i64 (lone)) (HB2.out _ HE0.out).1
  obtain⟨u0,u1,u2,_⟩:=boxC_cells hb3
  have hn2:=(HB2.out _ HE0.out).2
  have hfin:=(((HEa.out.trans HE0.out).setCell (p:=⟨w.heap.size+1,0,none⟩) (by simp) hn2 (.slice a0 n c0)).setCell (p:=⟨w.heap.size+1,1,none⟩) (by simp) hn2 (.int .i64 (root))).setCell (p:=⟨w.heap.size+1,2,none⟩) (by simp) hn2 (.int .i64 (lone))
  refine bodyPost_ret (v:=.tuple #[refV (.slice a0 n c0) (root) (lone),.int .i64 1]) ?_ rfl ⟨.slice a0 n c0,rfl,hfin,?_,fun k e=>Or.inl e⟩
  ·simp[results,Tryz.results38,go_sem,u0,u1,u2,refV]
  ·have:=HHv.out.ev hfin
   rwa [HNn.out] at this
 ·have b1:decide (d<0)=false:=decide_eq_false h0
  have b2:decide ((n:Int)≤d)=true:=decide_eq_true (by omega)
  go_wp2_with fail
  have hb3:=set3 (x:=.slice a0 n c0) (y:=.int .i64 (root)) (z:=.int .i64 (lone)) (HB2.out _ HE0.out).1
  obtain⟨u0,u1,u2,_⟩:=boxC_cells hb3
  have hn2:=(HB2.out _ HE0.out).2
  have hfin:=(((HEa.out.trans HE0.out).setCell (p:=⟨w.heap.size+1,0,none⟩) (by simp) hn2 (.slice a0 n c0)).setCell (p:=⟨w.heap.size+1,1,none⟩) (by simp) hn2 (.int .i64 (root))).setCell (p:=⟨w.heap.size+1,2,none⟩) (by simp) hn2 (.int .i64 (lone))
  refine bodyPost_ret (v:=.tuple #[refV (.slice a0 n c0) (root) (lone),.int .i64 1]) ?_ rfl ⟨.slice a0 n c0,rfl,hfin,?_,fun k e=>Or.inl e⟩
  ·simp[results,Tryz.results38,go_sem,u0,u1,u2,refV]
  ·have:=HHv.out.ev hfin
   rwa [HNn.out] at this
set_option maxRecDepth 100000 in
set_option maxHeartbeats 2000000 in
theorem y_out9 (R:Reg) (w:World) (hI:Inv R w) (v:Value) (s:List Nat) (root lone:Int) (hv:FreeI R w v (toI s)) (hS:IsPerm s) (hn:s.length≤99000) (hev:s.length % 2=0) (d e:Int) (hd:d<0∨s.length≤d):
  Calls Tryz.prog 38 #[refV v root lone,.int .i64 9,.int .i64 d,.int .i64 e] w (RetD R w v s root lone 1):=by
 obtain⟨a0,c0,rfl,_⟩:=hv.open
 rw[toI_length] at hv ⊢
 unfold refV
 have he0:Ev R w R (w.alloc (.cells #[.slice a0 s.length c0,.int .i64 root,.int .i64 lone] 27)):=(Ev.refl hI).alloc _
 have he01:Ev R (w.alloc (.cells #[.slice a0 s.length c0,.int .i64 root,.int .i64 lone] 27)) R ((w.alloc (.cells #[.slice a0 s.length c0,.int .i64 root,.int .i64 lone] 27)).alloc (.cells #[.slice none 0 0,.int .i64 0,.int .i64 0] 27)):=(Ev.refl he0.inv).alloc _
 have he1:Ev R w R ((w.alloc (.cells #[.slice a0 s.length c0,.int .i64 root,.int .i64 lone] 27)).alloc (.cells #[.slice none 0 0,.int .i64 0,.int .i64 0] 27)):=he0.trans he01
 have hn1:R w.heap.size=none:=hI.none_of_ge (Nat.le_refl _)
 have hB1:=fun w' (h:Ev R ((w.alloc (.cells #[.slice a0 s.length c0,.int .i64 root,.int .i64 lone] 27)).alloc (.cells #[.slice none 0 0,.int .i64 0,.int .i64 0] 27)) R w')=>(he01.trans h).boxC3 (heap_alloc_new w _) hn1
 have hB2:=fun w' (h:Ev R ((w.alloc (.cells #[.slice a0 s.length c0,.int .i64 root,.int .i64 lone] 27)).alloc (.cells #[.slice none 0 0,.int .i64 0,.int .i64 0] 27)) R w')=>h.boxC3 (heap_alloc_new (w.alloc (.cells #[.slice a0 s.length c0,.int .i64 root,.int .i64 lone] 27)) (.cells #[.slice none 0 0,.int .i64 0,.int .i64 0] 27)) (he0.inv.none_of_ge (Nat.le_refl _))
 have hza:((w.alloc (.cells #[.slice a0 s.length c0,.int .i64 root,.int .i64 lone] 27)).alloc (.cells #[.slice none 0 0,.int .i64 0,.int .i64 0] 27)).heap.size=w.heap.size+2:=by simp
 rw[World.size_alloc] at hB2
 obtain⟨n,hnn⟩:∃ n,s.length=n:=⟨_,rfl⟩
 have HNn:=Lib.hid hnn
 rw[hnn] at he0 he01 he1 hB1 hB2 hn hev hza ⊢
 rw[HNn.out] at hd
 have HHv:=Lib.hid hv
 have HSp:=Lib.hid hS
 clear hv hnn hS
 go_enter Tryz.func38,Tryz.ntmps38
 go_upto_region 1 with fail
 obtain⟨wa,hwa⟩:∃ wa,(w.alloc (.cells #[.slice a0 n c0,.int .i64 root,.int .i64 lone] 27)).alloc (.cells #[.slice none 0 0,.int .i64 0,.int .i64 0] 27)=wa:=⟨_,rfl⟩
 try rw[hwa] at he1 hB1 hB2 hza ⊢
 have HB1:=Lib.hid (fun w' (h:Ev R wa R w')=>boxC_cells (hB1 w' h).1)
 have HB2:=Lib.hid hB2
 have HZa:=Lib.hid hza
 have HEa:=Lib.hid he1
 have HE0:=Lib.hid (Ev.refl he1.inv)
 obtain⟨x0,x1,x2,_⟩:=HB1.out _ (Ev.refl he1.inv)
 obtain⟨y0,y1,y2,yz⟩:=boxC_cells (HB2.out _ (Ev.refl he1.inv)).1
 clear he0 he01 he1 hB1 hB2 hza hwa hn1 hI
 by_cases h0:d<0
 ·have b1:decide (d<0)=true:=decide_eq_true h0
  go_wp2_with fail
  have hb3:=set3 (x:=.slice a0 n c0) (y:=.int .i64 (root)) (z:=.int .i64 (lone)) (HB2.out _ HE0.out).1
  obtain⟨u0,u1,u2,_⟩:=boxC_cells hb3
  have hn2:=(HB2.out _ HE0.out).2
  have hfin:=(((HEa.out.trans HE0.out).setCell (p:=⟨w.heap.size+1,0,none⟩) (by simp) hn2 (.slice a0 n c0)).setCell (p:=⟨w.heap.size+1,1,none⟩) (by simp) hn2 (.int .i64 (root))).setCell (p:=⟨w.heap.size+1,2,none⟩) (by simp) hn2 (.int .i64 (lone))
  refine bodyPost_ret (v:=.tuple #[refV (.slice a0 n c0) (root) (lone),.int .i64 1]) ?_ rfl ⟨.slice a0 n c0,rfl,hfin,?_,fun k e=>Or.inl e⟩
  ·simp[results,Tryz.results38,go_sem,u0,u1,u2,refV]
  ·have:=HHv.out.ev hfin
   rwa [HNn.out] at this
 ·have b1:decide (d<0)=false:=decide_eq_false h0
  have b2:decide ((n:Int)≤d)=true:=decide_eq_true (by omega)
  go_wp2_with fail
  have hb3:=set3 (x:=.slice a0 n c0) (y:=.int .i64 (root)) (z:=.int .i64 (lone)) (HB2.out _ HE0.out).1
  obtain⟨u0,u1,u2,_⟩:=boxC_cells hb3
  have hn2:=(HB2.out _ HE0.out).2
  have hfin:=(((HEa.out.trans HE0.out).setCell (p:=⟨w.heap.size+1,0,none⟩) (by simp) hn2 (.slice a0 n c0)).setCell (p:=⟨w.heap.size+1,1,none⟩) (by simp) hn2 (.int .i64 (root))).setCell (p:=⟨w.heap.size+1,2,none⟩) (by simp) hn2 (.int .i64 (lone))
  refine bodyPost_ret (v:=.tuple #[refV (.slice a0 n c0) (root) (lone),.int .i64 1]) ?_ rfl ⟨.slice a0 n c0,rfl,hfin,?_,fun k e=>Or.inl e⟩
  ·simp[results,Tryz.results38,go_sem,u0,u1,u2,refV]
  ·have:=HHv.out.ev hfin
   rwa [HNn.out] at this
set_option maxRecDepth 100000 in
set_option maxHeartbeats 2000000 in
theorem y_cut (R:Reg) (w:World) (hI:Inv R w) (v:Value) (s:List Nat) (root lone:Int) (hv:FreeI R w v (toI s)) (hS:IsPerm s) (hn:s.length≤99000) (hev:s.length % 2=0) (d:Nat) (hd:d<s.length) (e:Int) (hr:0≤root∧root<s.length) (hl:0≤lone∧lone≤65536):
  Calls Tryz.prog 38 #[refV v root lone,.int .i64 8,.int .i64 (d:Int),.int .i64 e] w (RetD R w v (doneL s (d / 2)) (rootL s (d / 2) root.toNat) (lone+cutLone s (d / 2)) 0):=by
 obtain⟨a0,c0,rfl,_⟩:=hv.open
 rw[toI_length] at hv ⊢
 unfold refV
 have he0:Ev R w R (w.alloc (.cells #[.slice a0 s.length c0,.int .i64 root,.int .i64 lone] 27)):=(Ev.refl hI).alloc _
 have he01:Ev R (w.alloc (.cells #[.slice a0 s.length c0,.int .i64 root,.int .i64 lone] 27)) R ((w.alloc (.cells #[.slice a0 s.length c0,.int .i64 root,.int .i64 lone] 27)).alloc (.cells #[.slice none 0 0,.int .i64 0,.int .i64 0] 27)):=(Ev.refl he0.inv).alloc _
 have he1:Ev R w R ((w.alloc (.cells #[.slice a0 s.length c0,.int .i64 root,.int .i64 lone] 27)).alloc (.cells #[.slice none 0 0,.int .i64 0,.int .i64 0] 27)):=he0.trans he01
 have hn1:R w.heap.size=none:=hI.none_of_ge (Nat.le_refl _)
 have hB1:=fun w' (h:Ev R ((w.alloc (.cells #[.slice a0 s.length c0,.int .i64 root,.int .i64 lone] 27)).alloc (.cells #[.slice none 0 0,.int .i64 0,.int .i64 0] 27)) R w')=>(he01.trans h).boxC3 (heap_alloc_new w _) hn1
 have hB2:=fun w' (h:Ev R ((w.alloc (.cells #[.slice a0 s.length c0,.int .i64 root,.int .i64 lone] 27)).alloc (.cells #[.slice none 0 0,.int .i64 0,.int .i64 0] 27)) R w')=>h.boxC3 (heap_alloc_new (w.alloc (.cells #[.slice a0 s.length c0,.int .i64 root,.int .i64 lone] 27)) (.cells #[.slice none 0 0,.int .i64 0,.int .i64 0] 27)) (he0.inv.none_of_ge (Nat.le_refl _))
 have hza:((w.alloc (.cells #[.slice a0 s.length c0,.int .i64 root,.int .i64 lone] 27)).alloc (.cells #[.slice none 0 0,.int .i64 0,.int .i64 0] 27)).heap.size=w.heap.size+2:=by simp
 rw[World.size_alloc] at hB2
 have hen:2*(d / 2)+2≤s.length:=by omega
 obtain⟨q,hq⟩:∃ q,d / 2=q:=⟨_,rfl⟩
 have hq1:(d:Int).tdiv 2=(q:Int):=by rw[←hq];rfl
 have hq2:(d:Int) / 2=(q:Int):=by omega
 rw[hq] at hen ⊢
 have HQ:=Lib.hid hq
 clear hq
 obtain⟨n,hnn⟩:∃ n,s.length=n:=⟨_,rfl⟩
 have HNn:=Lib.hid hnn
 rw[hnn] at he0 he01 he1 hB1 hB2 hn hev hza ⊢
 rw[HNn.out] at hd
 have HHv:=Lib.hid hv
 have HSp:=Lib.hid hS
 clear hv hnn hS
 go_enter Tryz.func38,Tryz.ntmps38
 go_upto_region 1 with fail
 obtain⟨wa,hwa⟩:∃ wa,(w.alloc (.cells #[.slice a0 n c0,.int .i64 root,.int .i64 lone] 27)).alloc (.cells #[.slice none 0 0,.int .i64 0,.int .i64 0] 27)=wa:=⟨_,rfl⟩
 try rw[hwa] at he1 hB1 hB2 hza ⊢
 have HB1:=Lib.hid (fun w' (h:Ev R wa R w')=>boxC_cells (hB1 w' h).1)
 have HB2:=Lib.hid hB2
 have HZa:=Lib.hid hza
 have HEa:=Lib.hid he1
 have HE0:=Lib.hid (Ev.refl he1.inv)
 obtain⟨x0,x1,x2,_⟩:=HB1.out _ (Ev.refl he1.inv)
 obtain⟨y0,y1,y2,yz⟩:=boxC_cells (HB2.out _ (Ev.refl he1.inv)).1
 clear he0 he01 he1 hB1 hB2 hza hwa hn1 hI
 have b1:decide ((d:Int)<0)=false:=decide_eq_false (by omega)
 have b2:decide ((n:Int)≤(d:Int))=false:=decide_eq_false (by omega)
 have b3:¬ n≤d:=by omega
 have hca:=r10cut_any R wa HE0.out.inv (.slice a0 s.length c0) s root lone (HHv.out.ev HEa.out) HSp.out (by rw[HNn.out];omega) q hen hr hl
 rw[HNn.out] at hca
 unfold refV at hca
 have HCa:=Lib.hid hca
 obtain⟨RT,hRT⟩:∃ x,rootL s q root.toNat=x:=⟨_,rfl⟩
 obtain⟨LN,hLN⟩:∃ x,lone+cutLone s q=x:=⟨_,rfl⟩
 rw[hRT,hLN] at HCa
 have HRt:=Lib.hid hRT
 have HLn:=Lib.hid hLN
 clear hca hRT hLN
 go_wp2_with fail
 refine HCa.out.mono ?_
 rintro z w2 ⟨af,cf,rfl,he2,hof⟩
 have HE2:=Lib.hid he2
 have HOf:=Lib.hid hof
 have HSf:=Lib.hid (Nat.le_refl wa.heap.size)
 clear he2 hof x0 x1 x2 y0 y1 y2 yz
 simp only[refV]
 obtain⟨y0,y1,y2,yz⟩:=boxC_cells (HB2.out _ HE2.out).1
 obtain⟨lf,hlf⟩:∃ l,(doneL s q).length=l:=⟨_,rfl⟩
 rw[hlf] at HOf
 try rw[hlf]
 clear hlf
 go_wp2_with fail
 have hb3:=set3 (x:=.slice af lf cf) (y:=.int .i64 (RT)) (z:=.int .i64 (LN)) (HB2.out _ HE2.out).1
 obtain⟨u0,u1,u2,_⟩:=boxC_cells hb3
 have hn2:=(HB2.out _ HE2.out).2
 have hne:∀ (o:Nat),(Value.slice af lf cf).ownBlock≠some (⟨w.heap.size+1,o,none⟩:Addr).block:=fun o e'=>by
  have h1:=(HOf.out.lt _ e').1
  have h2:=HZa.out
  have h4:=HSf.out
  have h3:(⟨w.heap.size+1,o,none⟩:Addr).block=w.heap.size+1:=rfl
  omega
 refine bodyPost_ret (v:=.tuple #[refV (.slice af lf cf) (RT) (LN),.int .i64 0]) ?_ rfl ⟨.slice af lf cf,by rw[HRt.out,HLn.out],?_,?_,fun k e=>Or.inr ⟨by have:=(HOf.out.lt _ e).1;have:=HZa.out;have:=HSf.out;omega,by simp only[World.size_setCell];exact (HOf.out.lt _ e).2⟩⟩
 ·simp[results,Tryz.results38,go_sem,u0,u1,u2,refV]
 ·exact (((HEa.out.trans HE2.out).setCell (by simp) hn2 _).setCell (by simp) hn2 _).setCell (by simp) hn2 _
 ·exact ((((HOf.out).setCell (hne 0) _).setCell (hne 1) _).setCell (hne 2) _).free
set_option maxRecDepth 100000 in
set_option maxHeartbeats 2000000 in
theorem y_shr (R:Reg) (w:World) (hI:Inv R w) (v:Value) (s:List Nat) (root lone:Int) (hv:FreeI R w v (toI s)) (hS:IsPerm s) (hn:s.length≤99000) (hev:s.length % 2=0) (d:Nat) (hd:d<s.length) (e:Int) (hr:0≤root∧root<s.length) (hl:0≤lone∧lone≤65536):
  Calls Tryz.prog 38 #[refV v root lone,.int .i64 9,.int .i64 (d:Int),.int .i64 e] w (fun z w2=>(nth (namesL s) (2*(d / 2))=nth (namesL s) (2*(d / 2)+1)∧RetD R w v s root lone 8 z w2)∨(nth (namesL s) (2*(d / 2))≠nth (namesL s) (2*(d / 2)+1)∧RetD R w v (doneL (exL s (d / 2)) (d / 2)) (rootL s (d / 2) root.toNat) (lone+shrLone s (d / 2)) 0 z w2)):=by
 obtain⟨a0,c0,rfl,_⟩:=hv.open
 rw[toI_length] at hv ⊢
 unfold refV
 have he0:Ev R w R (w.alloc (.cells #[.slice a0 s.length c0,.int .i64 root,.int .i64 lone] 27)):=(Ev.refl hI).alloc _
 have he01:Ev R (w.alloc (.cells #[.slice a0 s.length c0,.int .i64 root,.int .i64 lone] 27)) R ((w.alloc (.cells #[.slice a0 s.length c0,.int .i64 root,.int .i64 lone] 27)).alloc (.cells #[.slice none 0 0,.int .i64 0,.int .i64 0] 27)):=(Ev.refl he0.inv).alloc _
 have he1:Ev R w R ((w.alloc (.cells #[.slice a0 s.length c0,.int .i64 root,.int .i64 lone] 27)).alloc (.cells #[.slice none 0 0,.int .i64 0,.int .i64 0] 27)):=he0.trans he01
 have hn1:R w.heap.size=none:=hI.none_of_ge (Nat.le_refl _)
 have hB1:=fun w' (h:Ev R ((w.alloc (.cells #[.slice a0 s.length c0,.int .i64 root,.int .i64 lone] 27)).alloc (.cells #[.slice none 0 0,.int .i64 0,.int .i64 0] 27)) R w')=>(he01.trans h).boxC3 (heap_alloc_new w _) hn1
 have hB2:=fun w' (h:Ev R ((w.alloc (.cells #[.slice a0 s.length c0,.int .i64 root,.int .i64 lone] 27)).alloc (.cells #[.slice none 0 0,.int .i64 0,.int .i64 0] 27)) R w')=>h.boxC3 (heap_alloc_new (w.alloc (.cells #[.slice a0 s.length c0,.int .i64 root,.int .i64 lone] 27)) (.cells #[.slice none 0 0,.int .i64 0,.int .i64 0] 27)) (he0.inv.none_of_ge (Nat.le_refl _))
 have hza:((w.alloc (.cells #[.slice a0 s.length c0,.int .i64 root,.int .i64 lone] 27)).alloc (.cells #[.slice none 0 0,.int .i64 0,.int .i64 0] 27)).heap.size=w.heap.size+2:=by simp
 rw[World.size_alloc] at hB2
 have hen:2*(d / 2)+2≤s.length:=by omega
 have hdm:=xor_one_lt hev hd
 have hmm:d ^^^ 1<s.length:=hdm
 have hx:=xor_one d
 have hboth:(nth (namesL s) (2*(d / 2))=nth (namesL s) (2*(d / 2)+1))↔nth (namesL s) d=nth (namesL s) (d ^^^ 1):=by
  by_cases hp:d % 2=0
  ·rw[if_pos hp] at hx
   rw[hx,show 2*(d / 2)=d by omega]
  ·rw[if_neg hp] at hx
   rw[hx,show 2*(d / 2)=d-1 by omega,show d-1+1=d by omega]
   exact⟨fun h=>h.symm,fun h=>h.symm⟩
 obtain⟨q,hq⟩:∃ q,d / 2=q:=⟨_,rfl⟩
 have hq1:(d:Int).tdiv 2=(q:Int):=by rw[←hq];rfl
 have hq2:(d:Int) / 2=(q:Int):=by omega
 rw[hq] at hen hboth ⊢
 have HQ:=Lib.hid hq
 clear hq
 obtain⟨m,hm⟩:∃ m,d ^^^ 1=m:=⟨_,rfl⟩
 have HM:=Lib.hid (fun w'=>rmate_any w' d (by omega))
 rw[hm] at hdm hmm hboth HM
 have hnl:=namesL_length s
 obtain⟨NL,hNL⟩:∃ x,namesL s=x:=⟨_,rfl⟩
 obtain⟨qd,hqd⟩:∃ x,nth (namesL s) d=x:=⟨_,rfl⟩
 obtain⟨qm,hqm⟩:∃ x,nth (namesL s) m=x:=⟨_,rfl⟩
 rw[hqd,hqm] at hboth
 have HQd:=Lib.hid hqd
 have HQm:=Lib.hid hqm
 have HBo:=Lib.hid hboth
 clear hqd hqm hboth hx hdm hm hNL
 obtain⟨n,hnn⟩:∃ n,s.length=n:=⟨_,rfl⟩
 have HNn:=Lib.hid hnn
 rw[hnn] at he0 he01 he1 hB1 hB2 hn hev hza ⊢
 rw[HNn.out] at hd hmm hnl
 have HHv:=Lib.hid hv
 have HSp:=Lib.hid hS
 clear hv hnn hS
 go_enter Tryz.func38,Tryz.ntmps38
 go_upto_region 1 with fail
 obtain⟨wa,hwa⟩:∃ wa,(w.alloc (.cells #[.slice a0 n c0,.int .i64 root,.int .i64 lone] 27)).alloc (.cells #[.slice none 0 0,.int .i64 0,.int .i64 0] 27)=wa:=⟨_,rfl⟩
 try rw[hwa] at he1 hB1 hB2 hza ⊢
 have HB1:=Lib.hid (fun w' (h:Ev R wa R w')=>boxC_cells (hB1 w' h).1)
 have HB2:=Lib.hid hB2
 have HZa:=Lib.hid hza
 have HEa:=Lib.hid he1
 have HE0:=Lib.hid (Ev.refl he1.inv)
 obtain⟨x0,x1,x2,_⟩:=HB1.out _ (Ev.refl he1.inv)
 obtain⟨y0,y1,y2,yz⟩:=boxC_cells (HB2.out _ (Ev.refl he1.inv)).1
 clear he0 he01 he1 hB1 hB2 hza hwa hn1 hI
 have b1:decide ((d:Int)<0)=false:=decide_eq_false (by omega)
 have b2:decide ((n:Int)≤(d:Int))=false:=decide_eq_false (by omega)
 have b3:¬ n≤d:=by omega
 go_wp2_with fail
 refine (rnames_any R wa HE0.out.inv (.slice a0 n c0) s (by have:=HHv.out.ev HEa.out;rwa [HNn.out] at this) HSp.out (by rw[HNn.out];omega)).mono ?_
 rintro z w3 ⟨v3,rfl,he3,ho3⟩
 obtain⟨a3,c3,rfl,_⟩:=ho3.ints.open
 rw[hnl] at ho3 ⊢
 have HE3:=Lib.hid he3
 obtain⟨g3,rfl,_,_,z1,_⟩:=ho3.headAt hnl hd
 obtain⟨g3',e3,_,_,z2,_⟩:=ho3.headAt hnl hmm
 cases e3
 rw[HQd.out] at z1
 rw[HQm.out] at z2
 have HE3d:=Lib.hid (he3.trans (Ev.refl he3.inv).drew)
 clear he3 ho3 x0 x1 x2 y0 y1 y2 yz
 go_wp2_with fail
 by_cases hqq:qd=qm
 ·have t1:(qd == qm)=true:=beq_iff_eq.2 hqq
  have HQq:=Lib.hid hqq
  clear hqq
  refine wp_region_held_drew (S:=(fun w':World=>w'.cell? ⟨g3,d,none⟩=some (.int .i64 qd)∧w'.cell? ⟨g3,m,none⟩=some (.int .i64 qm))) (by kernel_rfl) ⟨z1,z2⟩ (fun hHeld=>?_)
  refine wpAnyH_take (i:=0) (v:=?e0) rfl (by kernel_rfl) (by kernel_rfl) (by kernel_rfl) (fun _ _ _ h=>h) (Or.inl ⟨by rfl,?e0h⟩) (by assumption) ?_
  case e0h=>(intro w' hSw;(try dsimp only at hSw);obtain⟨s0,s1⟩:=hSw;go_simp;try with_reducible rfl)
  try simp only[Act.put,List.getElem_toArray,List.getElem_cons_succ,List.getElem_cons_zero,List.setIfInBounds_toArray,List.set_cons_zero,List.set_cons_succ]
  refine wpAnyH_take (i:=1) (v:=?e1) rfl (by kernel_rfl) (by kernel_rfl) (by kernel_rfl) (fun _ _ _ h=>h) (Or.inl ⟨by rfl,?e1h⟩) (by assumption) ?_
  case e1h=>(intro w' hSw;(try dsimp only at hSw);obtain⟨s0,s1⟩:=hSw;go_simp;try with_reducible rfl)
  try simp only[Act.put,List.getElem_toArray,List.getElem_cons_succ,List.getElem_cons_zero,List.setIfInBounds_toArray,List.set_cons_zero,List.set_cons_succ]
  refine wpAnyH_take (i:=2) (v:=?e2) rfl (by kernel_rfl) (by kernel_rfl) (by kernel_rfl) (fun _ _ _ h=>h) (Or.inl ⟨by rfl,?e2h⟩) (by assumption) ?_
  case e2h=>(intro w' hSw;(try dsimp only at hSw);obtain⟨s0,s1⟩:=hSw;go_simp;try with_reducible rfl)
  try simp only[Act.put,List.getElem_toArray,List.getElem_cons_succ,List.getElem_cons_zero,List.setIfInBounds_toArray,List.set_cons_zero,List.set_cons_succ]
  refine wpAnyH_take (i:=3) (v:=?e3) rfl (by kernel_rfl) (by kernel_rfl) (by kernel_rfl) (fun _ _ _ h=>h) (Or.inl ⟨by rfl,?e3h⟩) (by assumption) ?_
  case e3h=>(intro w' hSw;(try dsimp only at hSw);obtain⟨s0,s1⟩:=hSw;go_simp;try with_reducible rfl)
  try simp only[Act.put,List.getElem_toArray,List.getElem_cons_succ,List.getElem_cons_zero,List.setIfInBounds_toArray,List.set_cons_zero,List.set_cons_succ]
  refine wpAnyH_take (i:=4) (v:=?e4) rfl (by kernel_rfl) (by kernel_rfl) (by kernel_rfl) (fun _ _ _ h=>h) (Or.inl ⟨by rfl,?e4h⟩) (by assumption) ?_
  case e4h=>(intro w' hSw;(try dsimp only at hSw);obtain⟨s0,s1⟩:=hSw;go_simp;try with_reducible rfl)
  try simp only[Act.put,List.getElem_toArray,List.getElem_cons_succ,List.getElem_cons_zero,List.setIfInBounds_toArray,List.set_cons_zero,List.set_cons_succ]
  refine wpAnyH_take (i:=5) (v:=?e5) rfl (by kernel_rfl) (by kernel_rfl) (by kernel_rfl) (fun _ _ _ h=>h) (Or.inl ⟨by rfl,?e5h⟩) (by assumption) ?_
  case e5h=>(intro w' hSw;(try dsimp only at hSw);obtain⟨s0,s1⟩:=hSw;go_simp;try with_reducible rfl)
  try simp only[Act.put,List.getElem_toArray,List.getElem_cons_succ,List.getElem_cons_zero,List.setIfInBounds_toArray,List.set_cons_zero,List.set_cons_succ]
  refine wpAnyH_ready (rs:=[6]) (by kernel_rfl) (by simp) (AllReadyH.cons rfl (fun K hK=>?_) AllReadyH.nil)
  go_simp
  refine (HM.out _).mono ?_
  rintro z w4 ⟨rfl,rfl⟩
  go_simp
  refine hK.out _ _ ⟨z1,z2⟩ (fun hHeld4=>?_)
  clear hHeld
  refine wpAnyH_take (i:=7) (v:=?e7) rfl (by kernel_rfl) (by kernel_rfl) (by kernel_rfl) (fun _ _ _ h=>h) (Or.inl ⟨by rfl,?e7h⟩) (by assumption) ?_
  case e7h=>(intro w' hSw;(try dsimp only at hSw);obtain⟨s0,s1⟩:=hSw;go_simp;try with_reducible rfl)
  try simp only[Act.put,List.getElem_toArray,List.getElem_cons_succ,List.getElem_cons_zero,List.setIfInBounds_toArray,List.set_cons_zero,List.set_cons_succ]
  refine wpAnyH_take (i:=8) (v:=?e8) rfl (by kernel_rfl) (by kernel_rfl) (by kernel_rfl) (fun _ _ _ h=>h) (Or.inl ⟨by rfl,?e8h⟩) (by assumption) ?_
  case e8h=>(intro w' hSw;(try dsimp only at hSw);obtain⟨s0,s1⟩:=hSw;go_simp;try with_reducible rfl)
  try simp only[Act.put,List.getElem_toArray,List.getElem_cons_succ,List.getElem_cons_zero,List.setIfInBounds_toArray,List.set_cons_zero,List.set_cons_succ]
  refine wpAnyH_take (i:=9) (v:=?e9) rfl (by kernel_rfl) (by kernel_rfl) (by kernel_rfl) (fun _ _ _ h=>h) (Or.inl ⟨by rfl,?e9h⟩) (by assumption) ?_
  case e9h=>(intro w' hSw;(try dsimp only at hSw);obtain⟨s0,s1⟩:=hSw;go_simp;try with_reducible rfl)
  try simp only[Act.put,List.getElem_toArray,List.getElem_cons_succ,List.getElem_cons_zero,List.setIfInBounds_toArray,List.set_cons_zero,List.set_cons_succ]
  refine wpAnyH_done (by kernel_rfl) ?_ _
  clear hHeld4 z1 z2
  obtain⟨x0,x1,x2,_⟩:=HB1.out _ HE3.out
  obtain⟨y0,y1,y2,yz⟩:=boxC_cells (HB2.out _ HE3.out).1
  go_wp2_with fail
  have hb3:=set3 (x:=.slice a0 n c0) (y:=.int .i64 (root)) (z:=.int .i64 (lone)) (HB2.out _ HE3.out).1
  obtain⟨u0,u1,u2,_⟩:=boxC_cells hb3
  have hn2:=(HB2.out _ HE3.out).2
  have hfin:=(((HEa.out.trans HE3.out).setCell (p:=⟨w.heap.size+1,0,none⟩) (by simp) hn2 (.slice a0 n c0)).setCell (p:=⟨w.heap.size+1,1,none⟩) (by simp) hn2 (.int .i64 (root))).setCell (p:=⟨w.heap.size+1,2,none⟩) (by simp) hn2 (.int .i64 (lone))
  refine bodyPost_ret (v:=.tuple #[refV (.slice a0 n c0) (root) (lone),.int .i64 8]) ?_ rfl (Or.inl ⟨HBo.out.2 HQq.out,⟨.slice a0 n c0,rfl,hfin.drew,?_,fun k e=>Or.inl e⟩⟩)
  ·simp[results,Tryz.results38,go_sem,u0,u1,u2,refV]
  ·have:=HHv.out.ev hfin.drew
   rwa [HNn.out] at this
 ·have t1:(qd == qm)=false:=beq_eq_false_iff_ne.2 hqq
  have HQq:=Lib.hid hqq
  clear hqq
  refine wp_region_held_drew (S:=(fun w':World=>w'.cell? ⟨g3,d,none⟩=some (.int .i64 qd)∧w'.cell? ⟨g3,m,none⟩=some (.int .i64 qm))) (by kernel_rfl) ⟨z1,z2⟩ (fun hHeld=>?_)
  refine wpAnyH_take (i:=0) (v:=?f0) rfl (by kernel_rfl) (by kernel_rfl) (by kernel_rfl) (fun _ _ _ h=>h) (Or.inl ⟨by rfl,?f0h⟩) (by assumption) ?_
  case f0h=>(intro w' hSw;(try dsimp only at hSw);obtain⟨s0,s1⟩:=hSw;go_simp;try with_reducible rfl)
  try simp only[Act.put,List.getElem_toArray,List.getElem_cons_succ,List.getElem_cons_zero,List.setIfInBounds_toArray,List.set_cons_zero,List.set_cons_succ]
  refine wpAnyH_take (i:=1) (v:=?f1) rfl (by kernel_rfl) (by kernel_rfl) (by kernel_rfl) (fun _ _ _ h=>h) (Or.inl ⟨by rfl,?f1h⟩) (by assumption) ?_
  case f1h=>(intro w' hSw;(try dsimp only at hSw);obtain⟨s0,s1⟩:=hSw;go_simp;try with_reducible rfl)
  try simp only[Act.put,List.getElem_toArray,List.getElem_cons_succ,List.getElem_cons_zero,List.setIfInBounds_toArray,List.set_cons_zero,List.set_cons_succ]
  refine wpAnyH_take (i:=2) (v:=?f2) rfl (by kernel_rfl) (by kernel_rfl) (by kernel_rfl) (fun _ _ _ h=>h) (Or.inl ⟨by rfl,?f2h⟩) (by assumption) ?_
  case f2h=>(intro w' hSw;(try dsimp only at hSw);obtain⟨s0,s1⟩:=hSw;go_simp;try with_reducible rfl)
  try simp only[Act.put,List.getElem_toArray,List.getElem_cons_succ,List.getElem_cons_zero,List.setIfInBounds_toArray,List.set_cons_zero,List.set_cons_succ]
  refine wpAnyH_take (i:=3) (v:=?f3) rfl (by kernel_rfl) (by kernel_rfl) (by kernel_rfl) (fun _ _ _ h=>h) (Or.inl ⟨by rfl,?f3h⟩) (by assumption) ?_
  case f3h=>(intro w' hSw;(try dsimp only at hSw);obtain⟨s0,s1⟩:=hSw;go_simp;try with_reducible rfl)
  try simp only[Act.put,List.getElem_toArray,List.getElem_cons_succ,List.getElem_cons_zero,List.setIfInBounds_toArray,List.set_cons_zero,List.set_cons_succ]
  refine wpAnyH_take (i:=4) (v:=?f4) rfl (by kernel_rfl) (by kernel_rfl) (by kernel_rfl) (fun _ _ _ h=>h) (Or.inl ⟨by rfl,?f4h⟩) (by assumption) ?_
  case f4h=>(intro w' hSw;(try dsimp only at hSw);obtain⟨s0,s1⟩:=hSw;go_simp;try with_reducible rfl)
  try simp only[Act.put,List.getElem_toArray,List.getElem_cons_succ,List.getElem_cons_zero,List.setIfInBounds_toArray,List.set_cons_zero,List.set_cons_succ]
  refine wpAnyH_take (i:=5) (v:=?f5) rfl (by kernel_rfl) (by kernel_rfl) (by kernel_rfl) (fun _ _ _ h=>h) (Or.inl ⟨by rfl,?f5h⟩) (by assumption) ?_
  case f5h=>(intro w' hSw;(try dsimp only at hSw);obtain⟨s0,s1⟩:=hSw;go_simp;try with_reducible rfl)
  try simp only[Act.put,List.getElem_toArray,List.getElem_cons_succ,List.getElem_cons_zero,List.setIfInBounds_toArray,List.set_cons_zero,List.set_cons_succ]
  refine wpAnyH_ready (rs:=[6]) (by kernel_rfl) (by simp) (AllReadyH.cons rfl (fun K hK=>?_) AllReadyH.nil)
  go_simp
  refine (HM.out _).mono ?_
  rintro z w4 ⟨rfl,rfl⟩
  go_simp
  refine hK.out _ _ ⟨z1,z2⟩ (fun hHeld4=>?_)
  clear hHeld
  refine wpAnyH_take (i:=7) (v:=?f7) rfl (by kernel_rfl) (by kernel_rfl) (by kernel_rfl) (fun _ _ _ h=>h) (Or.inl ⟨by rfl,?f7h⟩) (by assumption) ?_
  case f7h=>(intro w' hSw;(try dsimp only at hSw);obtain⟨s0,s1⟩:=hSw;go_simp;try with_reducible rfl)
  try simp only[Act.put,List.getElem_toArray,List.getElem_cons_succ,List.getElem_cons_zero,List.setIfInBounds_toArray,List.set_cons_zero,List.set_cons_succ]
  refine wpAnyH_take (i:=8) (v:=?f8) rfl (by kernel_rfl) (by kernel_rfl) (by kernel_rfl) (fun _ _ _ h=>h) (Or.inl ⟨by rfl,?f8h⟩) (by assumption) ?_
  case f8h=>(intro w' hSw;(try dsimp only at hSw);obtain⟨s0,s1⟩:=hSw;go_simp;try with_reducible rfl)
  try simp only[Act.put,List.getElem_toArray,List.getElem_cons_succ,List.getElem_cons_zero,List.setIfInBounds_toArray,List.set_cons_zero,List.set_cons_succ]
  refine wpAnyH_take (i:=9) (v:=?f9) rfl (by kernel_rfl) (by kernel_rfl) (by kernel_rfl) (fun _ _ _ h=>h) (Or.inl ⟨by rfl,?f9h⟩) (by assumption) ?_
  case f9h=>(intro w' hSw;(try dsimp only at hSw);obtain⟨s0,s1⟩:=hSw;go_simp;try with_reducible rfl)
  try simp only[Act.put,List.getElem_toArray,List.getElem_cons_succ,List.getElem_cons_zero,List.setIfInBounds_toArray,List.set_cons_zero,List.set_cons_succ]
  refine wpAnyH_done (by kernel_rfl) ?_ _
  clear hHeld4 z1 z2
  obtain⟨x0,x1,x2,_⟩:=HB1.out _ HE3d.out
  obtain⟨y0,y1,y2,yz⟩:=boxC_cells (HB2.out _ HE3d.out).1
  have hca:=r10shrink_any R w3.drew HE3d.out.inv (.slice a0 s.length c0) s root lone (HHv.out.ev (HEa.out.trans HE3d.out)) HSp.out (by rw[HNn.out];omega) q hen hr hl (fun h=>HQq.out (HBo.out.1 h))
  rw[HNn.out] at hca
  unfold refV at hca
  have HCa:=Lib.hid hca
  obtain⟨RT,hRT⟩:∃ x,rootL s q root.toNat=x:=⟨_,rfl⟩
  obtain⟨LN,hLN⟩:∃ x,lone+shrLone s q=x:=⟨_,rfl⟩
  rw[hRT,hLN] at HCa
  have HRt:=Lib.hid hRT
  have HLn:=Lib.hid hLN
  clear hca hRT hLN
  have HS3:=Lib.hid HE3d.out.size
  go_wp2_with fail
  refine HCa.out.mono ?_
  rintro z w2 ⟨af,cf,rfl,he2,hof⟩
  have HE2:=Lib.hid (HE3d.out.trans he2)
  have HOf:=Lib.hid hof
  have HSf:=Lib.hid HE3d.out.size
  clear he2 hof x0 x1 x2 y0 y1 y2 yz
  simp only[refV]
  obtain⟨y0,y1,y2,yz⟩:=boxC_cells (HB2.out _ HE2.out).1
  obtain⟨lf,hlf⟩:∃ l,(doneL (exL s q) q).length=l:=⟨_,rfl⟩
  rw[hlf] at HOf
  try rw[hlf]
  clear hlf
  go_wp2_with fail
  have hb3:=set3 (x:=.slice af lf cf) (y:=.int .i64 (RT)) (z:=.int .i64 (LN)) (HB2.out _ HE2.out).1
  obtain⟨u0,u1,u2,_⟩:=boxC_cells hb3
  have hn2:=(HB2.out _ HE2.out).2
  have hne:∀ (o:Nat),(Value.slice af lf cf).ownBlock≠some (⟨w.heap.size+1,o,none⟩:Addr).block:=fun o e'=>by
   have h1:=(HOf.out.lt _ e').1
   have h2:=HZa.out
   have h4:=HSf.out
   have h3:(⟨w.heap.size+1,o,none⟩:Addr).block=w.heap.size+1:=rfl
   omega
  refine bodyPost_ret (v:=.tuple #[refV (.slice af lf cf) (RT) (LN),.int .i64 0]) ?_ rfl (Or.inr ⟨fun h=>HQq.out (HBo.out.1 h),.slice af lf cf,by rw[HRt.out,HLn.out],?_,?_,fun k e=>Or.inr ⟨by have:=(HOf.out.lt _ e).1;have:=HZa.out;have:=HSf.out;omega,by simp only[World.size_setCell];exact (HOf.out.lt _ e).2⟩⟩)
  ·simp[results,Tryz.results38,go_sem,u0,u1,u2,refV]
  ·exact (((HEa.out.trans HE2.out).setCell (by simp) hn2 _).setCell (by simp) hn2 _).setCell (by simp) hn2 _
  ·exact ((((HOf.out).setCell (hne 0) _).setCell (hne 1) _).setCell (hne 2) _).free
end Go.Proofs.YtklkgicjfnbndaaGreat
