/- script.Do, kind by kind, at a map. -/
import Derived.Test.YtklkgicjfnbndaaGreatZScriptDoes39
import Derived.Test.YtklkgicjfnbndaaGreatZScriptDoes35
import Derived.Test.YtklkgicjfnbndaaGreatZScriptDoes37
namespace Go.Proofs.YtklkgicjfnbndaaGreat
section
open Go.RowKit
set_option linter.unusedVariables false
theorem cell_new2 (w:World) (o:Obj) (v:Value) (T:TypeId):((w.alloc o).alloc (.cells #[v] T)).cell? ⟨w.heap.size+1,0,none⟩=some v:=by
 have h:=heap_alloc_new (w.alloc o) (.cells #[v] T)
 rw[World.size_alloc] at h
 exact cells_at h 0
set_option maxRecDepth 100000 in
set_option maxHeartbeats 1000000 in
theorem sdo_0 (R:Reg) (w:World) (hI:Inv R w) (p:Value) (s:List Nat) (root:Int) (lone:Nat) (hp:MapAt R p s root lone) (D E:Int) :
  Calls Tryz.prog 32 #[p,.agg #[.int .i64 0,.int .i64 D,.int .i64 E]] w (ActPost R w (wayC s root lone 0 D E) (wayL s 0 D E) (root) (lone)):=by
 have he1:Ev R w R (w.alloc (.cells #[.int .i64 0,.int .i64 D,.int .i64 E] 50)):=(Ev.refl hI).alloc _
 have he2:Ev R w R ((w.alloc (.cells #[.int .i64 0,.int .i64 D,.int .i64 E] 50)).alloc (.cells #[.func (.func 43) #[] #[]] 32)):=he1.trans ((Ev.refl he1.inv).alloc _)
 have he3:Ev R w R (((w.alloc (.cells #[.int .i64 0,.int .i64 D,.int .i64 E] 50)).alloc (.cells #[.func (.func 43) #[] #[]] 32)).alloc (.cells #[.int .i64 0,.int .i64 D,.int .i64 E] 50)):=he2.trans ((Ev.refl he2.inv).alloc _)
 have hc:=cell_new2 w (.cells #[.int .i64 0,.int .i64 D,.int .i64 E] 50) (.func (.func 43) #[] #[]) 32
 have hf:=((leaf_any R _ he3.inv p s root lone (he3.map hp) D).mono fun e w' h=>(show ActPost R w (wayC s root lone 0 D E) (wayL s 0 D E) root lone e w' from (WayPost.act h).older he3))
 obtain⟨cc,hcc⟩:∃ c:Int,((wayC s root lone 0 D E:Int))=c:=⟨_,rfl⟩
 rw[hcc] at hf ⊢
 clear hcc
 have HF:=Lib.hid hf
 have HBy:=Lib.hid (by_0 (w.alloc (.cells #[.int .i64 0,.int .i64 D,.int .i64 E] 50)))
 have hen:=@eql_func
 obtain⟨b0,rfl,hb0⟩:=hp
 
 clear hI he1 he2 he3 hb0 hf
 go_enter Tryz.func32,Tryz.ntmps32
 go_wp2_with fail
 refine HBy.out.mono ?_
 rintro e w' ⟨rfl,rfl⟩
 try rw[World.size_alloc]
 go_wp2_with fail
 refine (at_0 _ _ _ hc _ _ _ _ (fun e w' h=>h.two) HF.out).mono ?_
 rintro e w' hpo
 obtain⟨q,c,rfl⟩:=hpo.two
 have HPo:=Lib.hid hpo
 clear hpo
 go_wp2_with fail
 first|exact HPo.out|(go_ret2;exact HPo.out)
set_option maxRecDepth 100000 in
set_option maxHeartbeats 1000000 in
theorem sdo_2 (R:Reg) (w:World) (hI:Inv R w) (p:Value) (s:List Nat) (root:Int) (lone:Nat) (hp:MapAt R p s root lone) (D E:Int) :
  Calls Tryz.prog 32 #[p,.agg #[.int .i64 2,.int .i64 D,.int .i64 E]] w (ActPost R w (wayC s root lone 2 D E) (wayL s 2 D E) (root) (lone)):=by
 have he1:Ev R w R (w.alloc (.cells #[.int .i64 2,.int .i64 D,.int .i64 E] 50)):=(Ev.refl hI).alloc _
 have he2:Ev R w R ((w.alloc (.cells #[.int .i64 2,.int .i64 D,.int .i64 E] 50)).alloc (.cells #[.func (.func 63) #[] #[]] 32)):=he1.trans ((Ev.refl he1.inv).alloc _)
 have he3:Ev R w R (((w.alloc (.cells #[.int .i64 2,.int .i64 D,.int .i64 E] 50)).alloc (.cells #[.func (.func 63) #[] #[]] 32)).alloc (.cells #[.int .i64 2,.int .i64 D,.int .i64 E] 50)):=he2.trans ((Ev.refl he2.inv).alloc _)
 have hc:=cell_new2 w (.cells #[.int .i64 2,.int .i64 D,.int .i64 E] 50) (.func (.func 63) #[] #[]) 32
 have hf:=((split_any R _ he3.inv p s root lone (he3.map hp) D).mono fun e w' h=>(show ActPost R w (wayC s root lone 2 D E) (wayL s 2 D E) root lone e w' from (WayPost.act h).older he3))
 obtain⟨cc,hcc⟩:∃ c:Int,((wayC s root lone 2 D E:Int))=c:=⟨_,rfl⟩
 rw[hcc] at hf ⊢
 clear hcc
 have HF:=Lib.hid hf
 have HBy:=Lib.hid (by_2 (w.alloc (.cells #[.int .i64 2,.int .i64 D,.int .i64 E] 50)))
 have hen:=@eql_func
 obtain⟨b0,rfl,hb0⟩:=hp
 
 clear hI he1 he2 he3 hb0 hf
 go_enter Tryz.func32,Tryz.ntmps32
 go_wp2_with fail
 refine HBy.out.mono ?_
 rintro e w' ⟨rfl,rfl⟩
 try rw[World.size_alloc]
 go_wp2_with fail
 refine (at_2 _ _ _ hc _ _ _ _ (fun e w' h=>h.two) HF.out).mono ?_
 rintro e w' hpo
 obtain⟨q,c,rfl⟩:=hpo.two
 have HPo:=Lib.hid hpo
 clear hpo
 go_wp2_with fail
 first|exact HPo.out|(go_ret2;exact HPo.out)
set_option maxRecDepth 100000 in
set_option maxHeartbeats 1000000 in
theorem sdo_3 (R:Reg) (w:World) (hI:Inv R w) (p:Value) (s:List Nat) (root:Int) (lone:Nat) (hp:MapAt R p s root lone) (D E:Int) :
  Calls Tryz.prog 32 #[p,.agg #[.int .i64 3,.int .i64 D,.int .i64 E]] w (ActPost R w (wayC s root lone 3 D E) (wayL s 3 D E) (root) (lone)):=by
 have he1:Ev R w R (w.alloc (.cells #[.int .i64 3,.int .i64 D,.int .i64 E] 50)):=(Ev.refl hI).alloc _
 have he2:Ev R w R ((w.alloc (.cells #[.int .i64 3,.int .i64 D,.int .i64 E] 50)).alloc (.cells #[.func (.func 12) #[] #[]] 32)):=he1.trans ((Ev.refl he1.inv).alloc _)
 have he3:Ev R w R (((w.alloc (.cells #[.int .i64 3,.int .i64 D,.int .i64 E] 50)).alloc (.cells #[.func (.func 12) #[] #[]] 32)).alloc (.cells #[.int .i64 3,.int .i64 D,.int .i64 E] 50)):=he2.trans ((Ev.refl he2.inv).alloc _)
 have hc:=cell_new2 w (.cells #[.int .i64 3,.int .i64 D,.int .i64 E] 50) (.func (.func 12) #[] #[]) 32
 have hf:=((star_any R _ he3.inv p s root lone (he3.map hp) D).mono fun e w' h=>(show ActPost R w (wayC s root lone 3 D E) (wayL s 3 D E) root lone e w' from (WayPost.act h).older he3))
 obtain⟨cc,hcc⟩:∃ c:Int,((wayC s root lone 3 D E:Int))=c:=⟨_,rfl⟩
 rw[hcc] at hf ⊢
 clear hcc
 have HF:=Lib.hid hf
 have HBy:=Lib.hid (by_3 (w.alloc (.cells #[.int .i64 3,.int .i64 D,.int .i64 E] 50)))
 have hen:=@eql_func
 obtain⟨b0,rfl,hb0⟩:=hp
 
 clear hI he1 he2 he3 hb0 hf
 go_enter Tryz.func32,Tryz.ntmps32
 go_wp2_with fail
 refine HBy.out.mono ?_
 rintro e w' ⟨rfl,rfl⟩
 try rw[World.size_alloc]
 go_wp2_with fail
 refine (at_3 _ _ _ hc _ _ _ _ (fun e w' h=>h.two) HF.out).mono ?_
 rintro e w' hpo
 obtain⟨q,c,rfl⟩:=hpo.two
 have HPo:=Lib.hid hpo
 clear hpo
 go_wp2_with fail
 first|exact HPo.out|(go_ret2;exact HPo.out)
set_option maxRecDepth 100000 in
set_option maxHeartbeats 1000000 in
theorem sdo_4 (R:Reg) (w:World) (hI:Inv R w) (p:Value) (s:List Nat) (root:Int) (lone:Nat) (hp:MapAt R p s root lone) (D E:Int) :
  Calls Tryz.prog 32 #[p,.agg #[.int .i64 4,.int .i64 D,.int .i64 E]] w (ActPost R w (wayC s root lone 4 D E) (wayL s 4 D E) (root) (lone)):=by
 have he1:Ev R w R (w.alloc (.cells #[.int .i64 4,.int .i64 D,.int .i64 E] 50)):=(Ev.refl hI).alloc _
 have he2:Ev R w R ((w.alloc (.cells #[.int .i64 4,.int .i64 D,.int .i64 E] 50)).alloc (.cells #[.func (.func 16) #[] #[]] 32)):=he1.trans ((Ev.refl he1.inv).alloc _)
 have he3:Ev R w R (((w.alloc (.cells #[.int .i64 4,.int .i64 D,.int .i64 E] 50)).alloc (.cells #[.func (.func 16) #[] #[]] 32)).alloc (.cells #[.int .i64 4,.int .i64 D,.int .i64 E] 50)):=he2.trans ((Ev.refl he2.inv).alloc _)
 have hc:=cell_new2 w (.cells #[.int .i64 4,.int .i64 D,.int .i64 E] 50) (.func (.func 16) #[] #[]) 32
 have hf:=((flip_any R _ he3.inv p s root lone (he3.map hp) D).mono fun e w' h=>(show ActPost R w (wayC s root lone 4 D E) (wayL s 4 D E) root lone e w' from (WayPost.act h).older he3))
 obtain⟨cc,hcc⟩:∃ c:Int,((wayC s root lone 4 D E:Int))=c:=⟨_,rfl⟩
 rw[hcc] at hf ⊢
 clear hcc
 have HF:=Lib.hid hf
 have HBy:=Lib.hid (by_4 (w.alloc (.cells #[.int .i64 4,.int .i64 D,.int .i64 E] 50)))
 have hen:=@eql_func
 obtain⟨b0,rfl,hb0⟩:=hp
 
 clear hI he1 he2 he3 hb0 hf
 go_enter Tryz.func32,Tryz.ntmps32
 go_wp2_with fail
 refine HBy.out.mono ?_
 rintro e w' ⟨rfl,rfl⟩
 try rw[World.size_alloc]
 go_wp2_with fail
 refine (at_4 _ _ _ hc _ _ _ _ (fun e w' h=>h.two) HF.out).mono ?_
 rintro e w' hpo
 obtain⟨q,c,rfl⟩:=hpo.two
 have HPo:=Lib.hid hpo
 clear hpo
 go_wp2_with fail
 first|exact HPo.out|(go_ret2;exact HPo.out)
set_option maxRecDepth 100000 in
set_option maxHeartbeats 1000000 in
theorem sdo_1 (R:Reg) (w:World) (hI:Inv R w) (p:Value) (s:List Nat) (root:Int) (lone:Nat) (hp:MapAt R p s root lone) (D E:Int) :
  Calls Tryz.prog 32 #[p,.agg #[.int .i64 1,.int .i64 D,.int .i64 E]] w (ActPost R w (wayC s root lone 1 D E) (wayL s 1 D E) (root) (lone)):=by
 have he1:Ev R w R (w.alloc (.cells #[.int .i64 1,.int .i64 D,.int .i64 E] 50)):=(Ev.refl hI).alloc _
 have he2:=he1
 have he3:Ev R w R ((w.alloc (.cells #[.int .i64 1,.int .i64 D,.int .i64 E] 50)).alloc (.cells #[.int .i64 1,.int .i64 D,.int .i64 E] 50)):=he2.trans ((Ev.refl he2.inv).alloc _)
 
 have hf:=((chord_any R _ he3.inv p s root lone (he3.map hp) D E).mono fun e w' h=>(show ActPost R w (wayC s root lone 1 D E) (wayL s 1 D E) root lone e w' from (WayPost.act h).older he3))
 obtain⟨cc,hcc⟩:∃ c:Int,((wayC s root lone 1 D E:Int))=c:=⟨_,rfl⟩
 rw[hcc] at hf ⊢
 clear hcc
 have HF:=Lib.hid hf
 have HBy:=Lib.hid (by_1 (w.alloc (.cells #[.int .i64 1,.int .i64 D,.int .i64 E] 50)))
 have hen:=@eql_func
 obtain⟨b0,rfl,hb0⟩:=hp
 
 clear hI he1 he2 he3 hb0 hf
 go_enter Tryz.func32,Tryz.ntmps32
 go_wp2_with fail
 refine HBy.out.mono ?_
 rintro e w' ⟨rfl,rfl⟩
 try rw[World.size_alloc]
 go_wp2_with fail
 refine (at_1 _ _ _ _ _ _ (fun e w' h=>h.two) HF.out).mono ?_
 rintro e w' hpo
 obtain⟨q,c,rfl⟩:=hpo.two
 have HPo:=Lib.hid hpo
 clear hpo
 go_wp2_with fail
 first|exact HPo.out|(go_ret2;exact HPo.out)
set_option maxRecDepth 100000 in
set_option maxHeartbeats 1000000 in
theorem sdo_5 (R:Reg) (w:World) (hI:Inv R w) (p:Value) (s:List Nat) (root:Int) (lone:Nat) (hp:MapAt R p s root lone) (D E:Int) :
  Calls Tryz.prog 32 #[p,.agg #[.int .i64 5,.int .i64 D,.int .i64 E]] w (ActPost R w (if inR s.length D=true then 0 else 5) (s) (D) (lone)):=by
 have he1:Ev R w R (w.alloc (.cells #[.int .i64 5,.int .i64 D,.int .i64 E] 50)):=(Ev.refl hI).alloc _
 have he2:Ev R w R ((w.alloc (.cells #[.int .i64 5,.int .i64 D,.int .i64 E] 50)).alloc (.cells #[.func (.func 107) #[] #[]] 32)):=he1.trans ((Ev.refl he1.inv).alloc _)
 have he3:Ev R w R (((w.alloc (.cells #[.int .i64 5,.int .i64 D,.int .i64 E] 50)).alloc (.cells #[.func (.func 107) #[] #[]] 32)).alloc (.cells #[.int .i64 5,.int .i64 D,.int .i64 E] 50)):=he2.trans ((Ev.refl he2.inv).alloc _)
 have hc:=cell_new2 w (.cells #[.int .i64 5,.int .i64 D,.int .i64 E] 50) (.func (.func 107) #[] #[]) 32
 have hf:=((rooted_any R _ he3.inv p s root lone (he3.map hp) D).mono fun e w' h=>(RootedPost.act h).older he3)
 obtain⟨cc,hcc⟩:∃ c:Int,((if inR s.length D=true then 0 else 5:Int))=c:=⟨_,rfl⟩
 rw[hcc] at hf ⊢
 clear hcc
 have HF:=Lib.hid hf
 have HBy:=Lib.hid (by_5 (w.alloc (.cells #[.int .i64 5,.int .i64 D,.int .i64 E] 50)))
 have hen:=@eql_func
 obtain⟨b0,rfl,hb0⟩:=hp
 
 clear hI he1 he2 he3 hb0 hf
 go_enter Tryz.func32,Tryz.ntmps32
 go_wp2_with fail
 refine HBy.out.mono ?_
 rintro e w' ⟨rfl,rfl⟩
 try rw[World.size_alloc]
 go_wp2_with fail
 refine (at_5 _ _ _ hc _ _ _ _ (fun e w' h=>h.two) HF.out).mono ?_
 rintro e w' hpo
 obtain⟨q,c,rfl⟩:=hpo.two
 have HPo:=Lib.hid hpo
 clear hpo
 go_wp2_with fail
 first|exact HPo.out|(go_ret2;exact HPo.out)
set_option maxRecDepth 100000 in
set_option maxHeartbeats 1000000 in
theorem sdo_6 (R:Reg) (w:World) (hI:Inv R w) (p:Value) (s:List Nat) (root:Int) (lone:Nat) (hp:MapAt R p s root lone) (D E:Int) :
  Calls Tryz.prog 32 #[p,.agg #[.int .i64 6,.int .i64 D,.int .i64 E]] w (ActPost R w (0) (phiL s) (root) (lone)):=by
 have he1:Ev R w R (w.alloc (.cells #[.int .i64 6,.int .i64 D,.int .i64 E] 50)):=(Ev.refl hI).alloc _
 have he2:Ev R w R ((w.alloc (.cells #[.int .i64 6,.int .i64 D,.int .i64 E] 50)).alloc (.cells #[.func (.func 109) #[] #[]] 131)):=he1.trans ((Ev.refl he1.inv).alloc _)
 have he3:Ev R w R (((w.alloc (.cells #[.int .i64 6,.int .i64 D,.int .i64 E] 50)).alloc (.cells #[.func (.func 109) #[] #[]] 131)).alloc (.cells #[.int .i64 6,.int .i64 D,.int .i64 E] 50)):=he2.trans ((Ev.refl he2.inv).alloc _)
 have hc:=cell_new2 w (.cells #[.int .i64 6,.int .i64 D,.int .i64 E] 50) (.func (.func 109) #[] #[]) 131
 have hf:=((dual_any R _ he3.inv p s root lone (he3.map hp)).mono fun (e:Ending) (w':World) ⟨q,R',h1,h2,h3⟩=>(⟨q,h1,q,R',rfl,he3.trans h2,fun h=>absurd rfl h,fun _=>h3⟩:∃ q,e=Ending.returned q∧ActPost R w 0 (phiL s) root lone (.returned (.tuple #[q,.int .i64 0])) w'))
 have HF:=Lib.hid hf
 have HBy:=Lib.hid (by_6 (w.alloc (.cells #[.int .i64 6,.int .i64 D,.int .i64 E] 50)))
 have hen:=@eql_func
 obtain⟨b0,rfl,hb0⟩:=hp
 
 clear hI he1 he2 he3 hb0 hf
 go_enter Tryz.func32,Tryz.ntmps32
 go_wp2_with fail
 refine HBy.out.mono ?_
 rintro e w' ⟨rfl,rfl⟩
 try rw[World.size_alloc]
 go_wp2_with fail
 refine (at_6 _ _ _ hc _ _ _ _ HF.out).mono ?_
 rintro e w' hpo
 obtain⟨q,c,rfl⟩:=hpo.two
 have HPo:=Lib.hid hpo
 clear hpo
 go_wp2_with fail
 first|exact HPo.out|(go_ret2;exact HPo.out)
set_option maxRecDepth 100000 in
set_option maxHeartbeats 1000000 in
theorem sdo_7 (R:Reg) (w:World) (hI:Inv R w) (p:Value) (s:List Nat) (root:Int) (lone:Nat) (hp:MapAt R p s root lone) (D E:Int) :
  Calls Tryz.prog 32 #[p,.agg #[.int .i64 7,.int .i64 D,.int .i64 E]] w (ActPost R w (0) (invL s) (root) (lone)):=by
 have he1:Ev R w R (w.alloc (.cells #[.int .i64 7,.int .i64 D,.int .i64 E] 50)):=(Ev.refl hI).alloc _
 have he2:Ev R w R ((w.alloc (.cells #[.int .i64 7,.int .i64 D,.int .i64 E] 50)).alloc (.cells #[.func (.func 110) #[] #[]] 131)):=he1.trans ((Ev.refl he1.inv).alloc _)
 have he3:Ev R w R (((w.alloc (.cells #[.int .i64 7,.int .i64 D,.int .i64 E] 50)).alloc (.cells #[.func (.func 110) #[] #[]] 131)).alloc (.cells #[.int .i64 7,.int .i64 D,.int .i64 E] 50)):=he2.trans ((Ev.refl he2.inv).alloc _)
 have hc:=cell_new2 w (.cells #[.int .i64 7,.int .i64 D,.int .i64 E] 50) (.func (.func 110) #[] #[]) 131
 have hf:=((mirror_any R _ he3.inv p s root lone (he3.map hp)).mono fun (e:Ending) (w':World) ⟨q,R',h1,h2,h3⟩=>(⟨q,h1,q,R',rfl,he3.trans h2,fun h=>absurd rfl h,fun _=>h3⟩:∃ q,e=Ending.returned q∧ActPost R w 0 (invL s) root lone (.returned (.tuple #[q,.int .i64 0])) w'))
 have HF:=Lib.hid hf
 have HBy:=Lib.hid (by_7 (w.alloc (.cells #[.int .i64 7,.int .i64 D,.int .i64 E] 50)))
 have hen:=@eql_func
 obtain⟨b0,rfl,hb0⟩:=hp
 
 clear hI he1 he2 he3 hb0 hf
 go_enter Tryz.func32,Tryz.ntmps32
 go_wp2_with fail
 refine HBy.out.mono ?_
 rintro e w' ⟨rfl,rfl⟩
 try rw[World.size_alloc]
 go_wp2_with fail
 refine (at_7 _ _ _ hc _ _ _ _ HF.out).mono ?_
 rintro e w' hpo
 obtain⟨q,c,rfl⟩:=hpo.two
 have HPo:=Lib.hid hpo
 clear hpo
 go_wp2_with fail
 first|exact HPo.out|(go_ret2;exact HPo.out)
set_option maxRecDepth 100000 in
set_option maxHeartbeats 1000000 in
theorem sdo_10 (R:Reg) (w:World) (hI:Inv R w) (p:Value) (s:List Nat) (root:Int) (lone:Nat) (hp:MapAt R p s root lone) (D E:Int) :
  Calls Tryz.prog 32 #[p,.agg #[.int .i64 10,.int .i64 D,.int .i64 E]] w (ActPost R w (0) (canM s root) (canR s root) (lone)):=by
 have he1:Ev R w R (w.alloc (.cells #[.int .i64 10,.int .i64 D,.int .i64 E] 50)):=(Ev.refl hI).alloc _
 have he2:=he1
 have he3:Ev R w R ((w.alloc (.cells #[.int .i64 10,.int .i64 D,.int .i64 E] 50)).alloc (.cells #[.int .i64 10,.int .i64 D,.int .i64 E] 50)):=he2.trans ((Ev.refl he2.inv).alloc _)
 
 have hf:=((canon_any R _ he3.inv p s root lone (he3.map hp)).mono fun (e:Ending) (w':World) ⟨q,pm,R',h1,h2,h3,h4⟩=>(⟨q,pm,0,h1,q,R',rfl,he3.trans h2,fun h=>absurd rfl h,fun _=>h3⟩:∃ q pm c,e=Ending.returned (.tuple #[q,pm,.int .i64 c])∧ActPost R w 0 (canM s root) (canR s root) lone (.returned (.tuple #[q,.int .i64 c])) w'))
 have HF:=Lib.hid hf
 have HBy:=Lib.hid (by_10 (w.alloc (.cells #[.int .i64 10,.int .i64 D,.int .i64 E] 50)))
 have hen:=@eql_func
 obtain⟨b0,rfl,hb0⟩:=hp
 
 clear hI he1 he2 he3 hb0 hf
 go_enter Tryz.func32,Tryz.ntmps32
 go_wp2_with fail
 refine HBy.out.mono ?_
 rintro e w' ⟨rfl,rfl⟩
 try rw[World.size_alloc]
 go_wp2_with fail
 refine (at_10 _ _ _ _ _ _ HF.out).mono ?_
 rintro e w' hpo
 obtain⟨q,c,rfl⟩:=hpo.two
 have HPo:=Lib.hid hpo
 clear hpo
 go_wp2_with fail
 first|exact HPo.out|(go_ret2;exact HPo.out)
set_option maxRecDepth 100000 in
set_option maxHeartbeats 1000000 in
theorem sdo_8 (R:Reg) (w:World) (hI:Inv R w) (p:Value) (s:List Nat) (root:Int) (lone:Nat) (hp:MapAt R p s root lone) (E:Int) (d:Nat) (hdb:d<9223372036854775808) (hlb:lone≤60000):
  Calls Tryz.prog 32 #[p,.agg #[.int .i64 8,.int .i64 (d:Int),.int .i64 E]] w (ActPost R w (if d<s.length then 0 else 1) (doneL s (d / 2)) (rootL s (d / 2) root.toNat) (lone+cutLone s (d / 2))):=by
 have he1:Ev R w R (w.alloc (.cells #[.int .i64 8,.int .i64 (d:Int),.int .i64 E] 50)):=(Ev.refl hI).alloc _
 have he2:Ev R w R ((w.alloc (.cells #[.int .i64 8,.int .i64 (d:Int),.int .i64 E] 50)).alloc (.cells #[.func (.func 22) #[] #[]] 32)):=he1.trans ((Ev.refl he1.inv).alloc _)
 have he3:Ev R w R (((w.alloc (.cells #[.int .i64 8,.int .i64 (d:Int),.int .i64 E] 50)).alloc (.cells #[.func (.func 22) #[] #[]] 32)).alloc (.cells #[.int .i64 8,.int .i64 (d:Int),.int .i64 E] 50)):=he2.trans ((Ev.refl he2.inv).alloc _)
 have hc:=cell_new2 w (.cells #[.int .i64 8,.int .i64 (d:Int),.int .i64 E] 50) (.func (.func 22) #[] #[]) 32
 have hq0:wrap64 ((d:Int) / 2)=((d / 2:Nat):Int):=by
  have h:((d:Int) / 2)=((d / 2:Nat):Int):=by omega
  rw[h]
  exact IntWalk.wrap64_in _ (by omega)
 have hf:=(by
  have hok:=(hp.ok hI).2
  have hev:=hok.1
  by_cases hd:d<s.length
  ·rw[if_pos hd]
   exact (cut_any R _ he3.inv p s root lone (he3.map hp) (d / 2) (by omega) (by omega)).mono fun e w' h=>(NewYes.act h).older he3
  ·rw[if_neg hd]
   exact (dcut_out R _ he3.inv p s root lone (he3.map hp) ((d / 2:Nat):Int) (by omega)).mono fun e w' ⟨h,he⟩=>⟨_,R,h,he ▸ he3,fun _=>rfl,fun h=>by omega⟩:Calls Tryz.prog 22 #[p,.int .i64 ((d / 2:Nat):Int)] (((w.alloc (.cells #[.int .i64 8,.int .i64 (d:Int),.int .i64 E] 50)).alloc (.cells #[.func (.func 22) #[] #[]] 32)).alloc (.cells #[.int .i64 8,.int .i64 (d:Int),.int .i64 E] 50)) (ActPost R w (if d<s.length then 0 else 1) (doneL s (d / 2)) (rootL s (d / 2) root.toNat) (lone+cutLone s (d / 2))))
 obtain⟨cc,hcc⟩:∃ c:Int,((if d<s.length then 0 else 1:Int))=c:=⟨_,rfl⟩
 rw[hcc] at hf ⊢
 clear hcc
 have HF:=Lib.hid hf
 have HBy:=Lib.hid (by_8 (w.alloc (.cells #[.int .i64 8,.int .i64 (d:Int),.int .i64 E] 50)))
 have hen:=@eql_func
 obtain⟨b0,rfl,hb0⟩:=hp
 
 clear hI he1 he2 he3 hb0 hf
 go_enter Tryz.func32,Tryz.ntmps32
 go_wp2_with fail
 refine HBy.out.mono ?_
 rintro e w' ⟨rfl,rfl⟩
 try rw[World.size_alloc]
 go_wp2_with fail
 refine (at_8 _ _ _ hc _ _ _ _ hq0 _ (fun e w' h=>h.two) HF.out).mono ?_
 rintro e w' hpo
 obtain⟨q,c,rfl⟩:=hpo.two
 have HPo:=Lib.hid hpo
 clear hpo
 go_wp2_with fail
 first|exact HPo.out|(go_ret2;exact HPo.out)
set_option maxRecDepth 100000 in
set_option maxHeartbeats 1000000 in
theorem sdo_9 (R:Reg) (w:World) (hI:Inv R w) (p:Value) (s:List Nat) (root:Int) (lone:Nat) (hp:MapAt R p s root lone) (E:Int) (d:Nat) (hdb:d<9223372036854775808) (hlb:lone≤60000):
  Calls Tryz.prog 32 #[p,.agg #[.int .i64 9,.int .i64 (d:Int),.int .i64 E]] w (ActPost R w (if d<s.length then (if nth (namesL s) (2*(d / 2))=nth (namesL s) (2*(d / 2)+1) then 8 else 0) else 1) (doneL (exL s (d / 2)) (d / 2)) (rootL s (d / 2) root.toNat) (lone+shrLone s (d / 2))):=by
 have he1:Ev R w R (w.alloc (.cells #[.int .i64 9,.int .i64 (d:Int),.int .i64 E] 50)):=(Ev.refl hI).alloc _
 have he2:Ev R w R ((w.alloc (.cells #[.int .i64 9,.int .i64 (d:Int),.int .i64 E] 50)).alloc (.cells #[.func (.func 20) #[] #[]] 32)):=he1.trans ((Ev.refl he1.inv).alloc _)
 have he3:Ev R w R (((w.alloc (.cells #[.int .i64 9,.int .i64 (d:Int),.int .i64 E] 50)).alloc (.cells #[.func (.func 20) #[] #[]] 32)).alloc (.cells #[.int .i64 9,.int .i64 (d:Int),.int .i64 E] 50)):=he2.trans ((Ev.refl he2.inv).alloc _)
 have hc:=cell_new2 w (.cells #[.int .i64 9,.int .i64 (d:Int),.int .i64 E] 50) (.func (.func 20) #[] #[]) 32
 have hq0:wrap64 ((d:Int) / 2)=((d / 2:Nat):Int):=by
  have h:((d:Int) / 2)=((d / 2:Nat):Int):=by omega
  rw[h]
  exact IntWalk.wrap64_in _ (by omega)
 have hf:=(by
  have hok:=(hp.ok hI).2
  have hev:=hok.1
  by_cases hd:d<s.length
  ·rw[if_pos hd]
   by_cases hl:nth (namesL s) (2*(d / 2))=nth (namesL s) (2*(d / 2)+1)
   ·rw[if_pos hl]
    exact (dshrink_loop R _ he3.inv p s root lone (he3.map hp) (d / 2) (by omega) hl).mono fun e w' ⟨h,R',he⟩=>⟨_,R',h,he3.trans he,fun _=>rfl,fun h=>by omega⟩
   ·rw[if_neg hl]
    exact (shrink_any R _ he3.inv p s root lone (he3.map hp) (d / 2) (by omega) (by omega) hl).mono fun e w' h=>(NewYes.act h).older he3
  ·rw[if_neg hd]
   exact (dshrink_out R _ he3.inv p s root lone (he3.map hp) ((d / 2:Nat):Int) (by omega)).mono fun e w' ⟨h,he⟩=>⟨_,R,h,he ▸ he3,fun _=>rfl,fun h=>by omega⟩:Calls Tryz.prog 20 #[p,.int .i64 ((d / 2:Nat):Int)] (((w.alloc (.cells #[.int .i64 9,.int .i64 (d:Int),.int .i64 E] 50)).alloc (.cells #[.func (.func 20) #[] #[]] 32)).alloc (.cells #[.int .i64 9,.int .i64 (d:Int),.int .i64 E] 50)) (ActPost R w (if d<s.length then (if nth (namesL s) (2*(d / 2))=nth (namesL s) (2*(d / 2)+1) then 8 else 0) else 1) (doneL (exL s (d / 2)) (d / 2)) (rootL s (d / 2) root.toNat) (lone+shrLone s (d / 2))))
 obtain⟨cc,hcc⟩:∃ c:Int,((if d<s.length then (if nth (namesL s) (2*(d / 2))=nth (namesL s) (2*(d / 2)+1) then 8 else 0) else 1:Int))=c:=⟨_,rfl⟩
 rw[hcc] at hf ⊢
 clear hcc
 have HF:=Lib.hid hf
 have HBy:=Lib.hid (by_9 (w.alloc (.cells #[.int .i64 9,.int .i64 (d:Int),.int .i64 E] 50)))
 have hen:=@eql_func
 obtain⟨b0,rfl,hb0⟩:=hp
 
 clear hI he1 he2 he3 hb0 hf
 go_enter Tryz.func32,Tryz.ntmps32
 go_wp2_with fail
 refine HBy.out.mono ?_
 rintro e w' ⟨rfl,rfl⟩
 try rw[World.size_alloc]
 go_wp2_with fail
 refine (at_9 _ _ _ hc _ _ _ _ hq0 _ (fun e w' h=>h.two) HF.out).mono ?_
 rintro e w' hpo
 obtain⟨q,c,rfl⟩:=hpo.two
 have HPo:=Lib.hid hpo
 clear hpo
 go_wp2_with fail
 first|exact HPo.out|(go_ret2;exact HPo.out)
end
section
open Go.RowKit
set_option linter.unusedVariables false
noncomputable def actC (s:List Nat) (root lone k D E:Int):Int:=
 if k<0∨10<k then 15 else
 match k.toNat with
 | 5=>if inR s.length D=true then 0 else 5
 | 6=>0
 | 7=>0
 | 8=>if D<0 then 1 else if D.toNat<s.length then 0 else 1
 | 9=>if D<0 then 1 else if D.toNat<s.length then (if nth (namesL s) (2*(D.toNat / 2))=nth (namesL s) (2*(D.toNat / 2)+1) then 8 else 0) else 1
 | 10=>0
 | n=>wayC s root lone n D E
noncomputable def actM (s:List Nat) (root k D E:Int):List Nat:=
 match k.toNat with
 | 5=>s
 | 6=>phiL s
 | 7=>invL s
 | 8=>doneL s (D.toNat / 2)
 | 9=>doneL (exL s (D.toNat / 2)) (D.toNat / 2)
 | 10=>canM s root
 | n=>wayL s n D E
noncomputable def actRt (s:List Nat) (root k D:Int):Int:=
 match k.toNat with
 | 5=>D
 | 8=>rootL s (D.toNat / 2) root.toNat
 | 9=>rootL s (D.toNat / 2) root.toNat
 | 10=>canR s root
 | _=>root
def actLn (s:List Nat) (lone k D:Int):Int:=
 match k.toNat with
 | 8=>lone+cutLone s (D.toNat / 2)
 | 9=>lone+shrLone s (D.toNat / 2)
 | _=>lone
set_option maxRecDepth 100000 in
set_option maxHeartbeats 1000000 in
theorem by_out (w:World) (k:Int) (hk:k<0∨10<k):Calls Tryz.prog 70 #[.int .i64 k] w fun e w'=>e=.returned .nilFunc∧w'=w:=by
 have n0:(k == (0:Int))=false:=by simp;omega
 have n1:(k == (1:Int))=false:=by simp;omega
 have n2:(k == (2:Int))=false:=by simp;omega
 have n3:(k == (3:Int))=false:=by simp;omega
 have n4:(k == (4:Int))=false:=by simp;omega
 have n5:(k == (5:Int))=false:=by simp;omega
 have n6:(k == (6:Int))=false:=by simp;omega
 have n7:(k == (7:Int))=false:=by simp;omega
 have n8:(k == (8:Int))=false:=by simp;omega
 have n9:(k == (9:Int))=false:=by simp;omega
 have n10:(k == (10:Int))=false:=by simp;omega
 go_enter Tryz.func70,Tryz.ntmps70
 go_wp2_with fail
 go_ret
 exact⟨rfl,rfl⟩
set_option maxRecDepth 100000 in
theorem sdo_out (R:Reg) (w:World) (hI:Inv R w) (p:Value) (s:List Nat) (root lone:Int) (hp:MapAt R p s root lone) (k D E:Int) (hk:k<0∨10<k) (M:List Nat) (rt ln:Int):
  Calls Tryz.prog 32 #[p,.agg #[.int .i64 k,.int .i64 D,.int .i64 E]] w (ActPost R w 15 M rt ln):=by
 have he1:Ev R w R (w.alloc (.cells #[.int .i64 k,.int .i64 D,.int .i64 E] 50)):=(Ev.refl hI).alloc _
 have HE:=Lib.hid he1
 have HBy:=Lib.hid (by_out (w.alloc (.cells #[.int .i64 k,.int .i64 D,.int .i64 E] 50)) k hk)
 have hen:=eql_nilf
 obtain⟨b0,rfl,hb0⟩:=hp
 clear hI hb0 hk he1
 go_enter Tryz.func32,Tryz.ntmps32
 go_wp2_with fail
 refine HBy.out.mono ?_
 rintro e w' ⟨rfl,rfl⟩
 go_wp2_with fail
 go_ret2
 exact⟨_,R,rfl,HE.out,fun _=>rfl,fun h=>by omega⟩
set_option maxRecDepth 100000 in
theorem snil_0 (w:World) (D E:Int):Calls Tryz.prog 32 #[.pointer none,.agg #[.int .i64 0,.int .i64 D,.int .i64 E]] w fun e w'=>e=.returned (.tuple #[.pointer none,.int .i64 2])∧∀ R,Inv R w→Ev R w R w':=by
 have HBy:=Lib.hid (by_0 (w.alloc (.cells #[.int .i64 0,.int .i64 D,.int .i64 E] 50)))
 go_enter Tryz.func32,Tryz.ntmps32
 go_wp2_with fail
 refine HBy.out.mono ?_
 rintro e w' ⟨rfl,rfl⟩
 go_wp2_with fail
 go_ret2
 exact⟨rfl,fun R hI=>by first|exact ((Ev.refl hI).alloc _).trans ((Ev.refl ((Ev.refl hI).alloc _).inv).alloc _)|exact (Ev.refl hI).alloc _⟩
set_option maxRecDepth 100000 in
theorem snil_1 (w:World) (D E:Int):Calls Tryz.prog 32 #[.pointer none,.agg #[.int .i64 1,.int .i64 D,.int .i64 E]] w fun e w'=>e=.returned (.tuple #[.pointer none,.int .i64 2])∧∀ R,Inv R w→Ev R w R w':=by
 have HBy:=Lib.hid (by_1 (w.alloc (.cells #[.int .i64 1,.int .i64 D,.int .i64 E] 50)))
 go_enter Tryz.func32,Tryz.ntmps32
 go_wp2_with fail
 refine HBy.out.mono ?_
 rintro e w' ⟨rfl,rfl⟩
 go_wp2_with fail
 go_ret2
 exact⟨rfl,fun R hI=>by first|exact ((Ev.refl hI).alloc _).trans ((Ev.refl ((Ev.refl hI).alloc _).inv).alloc _)|exact (Ev.refl hI).alloc _⟩
set_option maxRecDepth 100000 in
theorem snil_2 (w:World) (D E:Int):Calls Tryz.prog 32 #[.pointer none,.agg #[.int .i64 2,.int .i64 D,.int .i64 E]] w fun e w'=>e=.returned (.tuple #[.pointer none,.int .i64 2])∧∀ R,Inv R w→Ev R w R w':=by
 have HBy:=Lib.hid (by_2 (w.alloc (.cells #[.int .i64 2,.int .i64 D,.int .i64 E] 50)))
 go_enter Tryz.func32,Tryz.ntmps32
 go_wp2_with fail
 refine HBy.out.mono ?_
 rintro e w' ⟨rfl,rfl⟩
 go_wp2_with fail
 go_ret2
 exact⟨rfl,fun R hI=>by first|exact ((Ev.refl hI).alloc _).trans ((Ev.refl ((Ev.refl hI).alloc _).inv).alloc _)|exact (Ev.refl hI).alloc _⟩
set_option maxRecDepth 100000 in
theorem snil_3 (w:World) (D E:Int):Calls Tryz.prog 32 #[.pointer none,.agg #[.int .i64 3,.int .i64 D,.int .i64 E]] w fun e w'=>e=.returned (.tuple #[.pointer none,.int .i64 2])∧∀ R,Inv R w→Ev R w R w':=by
 have HBy:=Lib.hid (by_3 (w.alloc (.cells #[.int .i64 3,.int .i64 D,.int .i64 E] 50)))
 go_enter Tryz.func32,Tryz.ntmps32
 go_wp2_with fail
 refine HBy.out.mono ?_
 rintro e w' ⟨rfl,rfl⟩
 go_wp2_with fail
 go_ret2
 exact⟨rfl,fun R hI=>by first|exact ((Ev.refl hI).alloc _).trans ((Ev.refl ((Ev.refl hI).alloc _).inv).alloc _)|exact (Ev.refl hI).alloc _⟩
set_option maxRecDepth 100000 in
theorem snil_4 (w:World) (D E:Int):Calls Tryz.prog 32 #[.pointer none,.agg #[.int .i64 4,.int .i64 D,.int .i64 E]] w fun e w'=>e=.returned (.tuple #[.pointer none,.int .i64 2])∧∀ R,Inv R w→Ev R w R w':=by
 have HBy:=Lib.hid (by_4 (w.alloc (.cells #[.int .i64 4,.int .i64 D,.int .i64 E] 50)))
 go_enter Tryz.func32,Tryz.ntmps32
 go_wp2_with fail
 refine HBy.out.mono ?_
 rintro e w' ⟨rfl,rfl⟩
 go_wp2_with fail
 go_ret2
 exact⟨rfl,fun R hI=>by first|exact ((Ev.refl hI).alloc _).trans ((Ev.refl ((Ev.refl hI).alloc _).inv).alloc _)|exact (Ev.refl hI).alloc _⟩
set_option maxRecDepth 100000 in
theorem snil_5 (w:World) (D E:Int):Calls Tryz.prog 32 #[.pointer none,.agg #[.int .i64 5,.int .i64 D,.int .i64 E]] w fun e w'=>e=.returned (.tuple #[.pointer none,.int .i64 2])∧∀ R,Inv R w→Ev R w R w':=by
 have HBy:=Lib.hid (by_5 (w.alloc (.cells #[.int .i64 5,.int .i64 D,.int .i64 E] 50)))
 go_enter Tryz.func32,Tryz.ntmps32
 go_wp2_with fail
 refine HBy.out.mono ?_
 rintro e w' ⟨rfl,rfl⟩
 go_wp2_with fail
 go_ret2
 exact⟨rfl,fun R hI=>by first|exact ((Ev.refl hI).alloc _).trans ((Ev.refl ((Ev.refl hI).alloc _).inv).alloc _)|exact (Ev.refl hI).alloc _⟩
set_option maxRecDepth 100000 in
theorem snil_6 (w:World) (D E:Int):Calls Tryz.prog 32 #[.pointer none,.agg #[.int .i64 6,.int .i64 D,.int .i64 E]] w fun e w'=>e=.returned (.tuple #[.pointer none,.int .i64 2])∧∀ R,Inv R w→Ev R w R w':=by
 have HBy:=Lib.hid (by_6 (w.alloc (.cells #[.int .i64 6,.int .i64 D,.int .i64 E] 50)))
 go_enter Tryz.func32,Tryz.ntmps32
 go_wp2_with fail
 refine HBy.out.mono ?_
 rintro e w' ⟨rfl,rfl⟩
 go_wp2_with fail
 go_ret2
 exact⟨rfl,fun R hI=>by first|exact ((Ev.refl hI).alloc _).trans ((Ev.refl ((Ev.refl hI).alloc _).inv).alloc _)|exact (Ev.refl hI).alloc _⟩
set_option maxRecDepth 100000 in
theorem snil_7 (w:World) (D E:Int):Calls Tryz.prog 32 #[.pointer none,.agg #[.int .i64 7,.int .i64 D,.int .i64 E]] w fun e w'=>e=.returned (.tuple #[.pointer none,.int .i64 2])∧∀ R,Inv R w→Ev R w R w':=by
 have HBy:=Lib.hid (by_7 (w.alloc (.cells #[.int .i64 7,.int .i64 D,.int .i64 E] 50)))
 go_enter Tryz.func32,Tryz.ntmps32
 go_wp2_with fail
 refine HBy.out.mono ?_
 rintro e w' ⟨rfl,rfl⟩
 go_wp2_with fail
 go_ret2
 exact⟨rfl,fun R hI=>by first|exact ((Ev.refl hI).alloc _).trans ((Ev.refl ((Ev.refl hI).alloc _).inv).alloc _)|exact (Ev.refl hI).alloc _⟩
set_option maxRecDepth 100000 in
theorem snil_8 (w:World) (D E:Int):Calls Tryz.prog 32 #[.pointer none,.agg #[.int .i64 8,.int .i64 D,.int .i64 E]] w fun e w'=>e=.returned (.tuple #[.pointer none,.int .i64 2])∧∀ R,Inv R w→Ev R w R w':=by
 have HBy:=Lib.hid (by_8 (w.alloc (.cells #[.int .i64 8,.int .i64 D,.int .i64 E] 50)))
 go_enter Tryz.func32,Tryz.ntmps32
 go_wp2_with fail
 refine HBy.out.mono ?_
 rintro e w' ⟨rfl,rfl⟩
 go_wp2_with fail
 go_ret2
 exact⟨rfl,fun R hI=>by first|exact ((Ev.refl hI).alloc _).trans ((Ev.refl ((Ev.refl hI).alloc _).inv).alloc _)|exact (Ev.refl hI).alloc _⟩
set_option maxRecDepth 100000 in
theorem snil_9 (w:World) (D E:Int):Calls Tryz.prog 32 #[.pointer none,.agg #[.int .i64 9,.int .i64 D,.int .i64 E]] w fun e w'=>e=.returned (.tuple #[.pointer none,.int .i64 2])∧∀ R,Inv R w→Ev R w R w':=by
 have HBy:=Lib.hid (by_9 (w.alloc (.cells #[.int .i64 9,.int .i64 D,.int .i64 E] 50)))
 go_enter Tryz.func32,Tryz.ntmps32
 go_wp2_with fail
 refine HBy.out.mono ?_
 rintro e w' ⟨rfl,rfl⟩
 go_wp2_with fail
 go_ret2
 exact⟨rfl,fun R hI=>by first|exact ((Ev.refl hI).alloc _).trans ((Ev.refl ((Ev.refl hI).alloc _).inv).alloc _)|exact (Ev.refl hI).alloc _⟩
set_option maxRecDepth 100000 in
theorem snil_10 (w:World) (D E:Int):Calls Tryz.prog 32 #[.pointer none,.agg #[.int .i64 10,.int .i64 D,.int .i64 E]] w fun e w'=>e=.returned (.tuple #[.pointer none,.int .i64 2])∧∀ R,Inv R w→Ev R w R w':=by
 have HBy:=Lib.hid (by_10 (w.alloc (.cells #[.int .i64 10,.int .i64 D,.int .i64 E] 50)))
 go_enter Tryz.func32,Tryz.ntmps32
 go_wp2_with fail
 refine HBy.out.mono ?_
 rintro e w' ⟨rfl,rfl⟩
 go_wp2_with fail
 go_ret2
 exact⟨rfl,fun R hI=>by first|exact ((Ev.refl hI).alloc _).trans ((Ev.refl ((Ev.refl hI).alloc _).inv).alloc _)|exact (Ev.refl hI).alloc _⟩
set_option maxRecDepth 100000 in
theorem snil_out (w:World) (k D E:Int) (hk:k<0∨10<k):Calls Tryz.prog 32 #[.pointer none,.agg #[.int .i64 k,.int .i64 D,.int .i64 E]] w fun e w'=>e=.returned (.tuple #[.pointer none,.int .i64 2])∧∀ R,Inv R w→Ev R w R w':=by
 have HBy:=Lib.hid (by_out (w.alloc (.cells #[.int .i64 k,.int .i64 D,.int .i64 E] 50)) k hk)
 clear hk
 go_enter Tryz.func32,Tryz.ntmps32
 go_wp2_with fail
 refine HBy.out.mono ?_
 rintro e w' ⟨rfl,rfl⟩
 go_wp2_with fail
 go_ret2
 exact⟨rfl,fun R hI=>(Ev.refl hI).alloc _⟩
theorem sdo_nil (w:World) (k D E:Int):Calls Tryz.prog 32 #[.pointer none,.agg #[.int .i64 k,.int .i64 D,.int .i64 E]] w fun e w'=>e=.returned (.tuple #[.pointer none,.int .i64 2])∧∀ R,Inv R w→Ev R w R w':=by
 by_cases hk:k<0∨10<k
 ·exact snil_out w k D E hk
 ·obtain⟨n,hn,rfl⟩:∃ n:Nat,n≤10∧k=(n:Int):=⟨k.toNat,by omega,by omega⟩
  clear hk
  match n,hn with
  | 0,_=>exact snil_0 w D E
  | 1,_=>exact snil_1 w D E
  | 2,_=>exact snil_2 w D E
  | 3,_=>exact snil_3 w D E
  | 4,_=>exact snil_4 w D E
  | 5,_=>exact snil_5 w D E
  | 6,_=>exact snil_6 w D E
  | 7,_=>exact snil_7 w D E
  | 8,_=>exact snil_8 w D E
  | 9,_=>exact snil_9 w D E
  | 10,_=>exact snil_10 w D E
set_option maxRecDepth 100000 in
theorem sdo_neg8 (R:Reg) (w:World) (hI:Inv R w) (p:Value) (s:List Nat) (root lone:Int) (hp:MapAt R p s root lone) (D E:Int) (hd:D<0) (M:List Nat) (rt ln:Int):
  Calls Tryz.prog 32 #[p,.agg #[.int .i64 8,.int .i64 D,.int .i64 E]] w (ActPost R w 1 M rt ln):=by
 have he1:Ev R w R (w.alloc (.cells #[.int .i64 8,.int .i64 D,.int .i64 E] 50)):=(Ev.refl hI).alloc _
 have he2:=he1.trans ((Ev.refl he1.inv).alloc (.cells #[.func (.func 22) #[] #[]] 32))
 have he3:=he2.trans ((Ev.refl he2.inv).alloc (.cells #[.int .i64 8,.int .i64 D,.int .i64 E] 50))
 have HE:=Lib.hid he3
 have HF:=Lib.hid (edge_no ((w.alloc (.cells #[.int .i64 8,.int .i64 D,.int .i64 E] 50)).alloc (.cells #[.func (.func 22) #[] #[]] 32)) p (w.heap.size+1) 8 D E hd)
 have HBy:=Lib.hid (by_8 (w.alloc (.cells #[.int .i64 8,.int .i64 D,.int .i64 E] 50)))
 have hen:=@eql_func
 obtain⟨b0,rfl,hb0⟩:=hp
 clear hI hb0 he1 he2 he3 hd
 go_enter Tryz.func32,Tryz.ntmps32
 go_wp2_with fail
 refine HBy.out.mono ?_
 rintro e w' ⟨rfl,rfl⟩
 try rw[World.size_alloc]
 go_wp2_with fail
 refine HF.out.mono ?_
 rintro e w' ⟨rfl,rfl⟩
 go_wp2_with fail
 go_ret2
 exact⟨_,R,rfl,HE.out,fun _=>rfl,fun h=>by omega⟩
set_option maxRecDepth 100000 in
theorem sdo_neg9 (R:Reg) (w:World) (hI:Inv R w) (p:Value) (s:List Nat) (root lone:Int) (hp:MapAt R p s root lone) (D E:Int) (hd:D<0) (M:List Nat) (rt ln:Int):
  Calls Tryz.prog 32 #[p,.agg #[.int .i64 9,.int .i64 D,.int .i64 E]] w (ActPost R w 1 M rt ln):=by
 have he1:Ev R w R (w.alloc (.cells #[.int .i64 9,.int .i64 D,.int .i64 E] 50)):=(Ev.refl hI).alloc _
 have he2:=he1.trans ((Ev.refl he1.inv).alloc (.cells #[.func (.func 20) #[] #[]] 32))
 have he3:=he2.trans ((Ev.refl he2.inv).alloc (.cells #[.int .i64 9,.int .i64 D,.int .i64 E] 50))
 have HE:=Lib.hid he3
 have HF:=Lib.hid (edge_no ((w.alloc (.cells #[.int .i64 9,.int .i64 D,.int .i64 E] 50)).alloc (.cells #[.func (.func 20) #[] #[]] 32)) p (w.heap.size+1) 9 D E hd)
 have HBy:=Lib.hid (by_9 (w.alloc (.cells #[.int .i64 9,.int .i64 D,.int .i64 E] 50)))
 have hen:=@eql_func
 obtain⟨b0,rfl,hb0⟩:=hp
 clear hI hb0 he1 he2 he3 hd
 go_enter Tryz.func32,Tryz.ntmps32
 go_wp2_with fail
 refine HBy.out.mono ?_
 rintro e w' ⟨rfl,rfl⟩
 try rw[World.size_alloc]
 go_wp2_with fail
 refine HF.out.mono ?_
 rintro e w' ⟨rfl,rfl⟩
 go_wp2_with fail
 go_ret2
 exact⟨_,R,rfl,HE.out,fun _=>rfl,fun h=>by omega⟩
theorem sdo_any (R:Reg) (w:World) (hI:Inv R w) (p:Value) (s:List Nat) (root:Int) (lone:Nat) (hp:MapAt R p s root lone) (k D E:Int) (hD:D<9223372036854775808) (hl:lone≤60000):
  Calls Tryz.prog 32 #[p,.agg #[.int .i64 k,.int .i64 D,.int .i64 E]] w (ActPost R w (actC s root lone k D E) (actM s root k D E) (actRt s root k D) (actLn s lone k D)):=by
 by_cases hk:k<0∨10<k
 ·have e:actC s root lone k D E=15:=by unfold actC;rw[if_pos hk]
  rw[e]
  exact sdo_out R w hI p s root lone hp k D E hk _ _ _
 ·obtain⟨n,hn,rfl⟩:∃ n:Nat,n≤10∧k=(n:Int):=⟨k.toNat,by omega,by omega⟩
  have e:∀ c:Int,(if (n:Int)<0∨10<(n:Int) then 15 else c)=c:=fun c=>if_neg hk
  unfold actC
  rw[e]
  clear hk e
  match n,hn with
  | 0,_=>exact sdo_0 R w hI p s root lone hp D E
  | 1,_=>exact sdo_1 R w hI p s root lone hp D E
  | 2,_=>exact sdo_2 R w hI p s root lone hp D E
  | 3,_=>exact sdo_3 R w hI p s root lone hp D E
  | 4,_=>exact sdo_4 R w hI p s root lone hp D E
  | 5,_=>exact sdo_5 R w hI p s root lone hp D E
  | 6,_=>exact sdo_6 R w hI p s root lone hp D E
  | 7,_=>exact sdo_7 R w hI p s root lone hp D E
  | 8,_=>
   by_cases hd:D<0
   ·show Calls _ _ _ _ (ActPost R w (if D<0 then 1 else _) _ _ _)
    rw[if_pos hd]
    exact sdo_neg8 R w hI p s root lone hp D E hd _ _ _
   ·obtain⟨d,rfl⟩:∃ d:Nat,D=(d:Int):=⟨D.toNat,by omega⟩
    show Calls _ _ _ _ (ActPost R w (if (d:Int)<0 then 1 else _) _ _ _)
    rw[if_neg hd]
    exact sdo_8 R w hI p s root lone hp E d (by omega) hl
  | 9,_=>
   by_cases hd:D<0
   ·show Calls _ _ _ _ (ActPost R w (if D<0 then 1 else _) _ _ _)
    rw[if_pos hd]
    exact sdo_neg9 R w hI p s root lone hp D E hd _ _ _
   ·obtain⟨d,rfl⟩:∃ d:Nat,D=(d:Int):=⟨D.toNat,by omega⟩
    show Calls _ _ _ _ (ActPost R w (if (d:Int)<0 then 1 else _) _ _ _)
    rw[if_neg hd]
    exact sdo_9 R w hI p s root lone hp E d (by omega) hl
  | 10,_=>exact sdo_10 R w hI p s root lone hp D E
end
section
open Go.RowKit
set_option linter.unusedVariables false
def listsL (s:List Nat):Nat→List (List Nat)
 | 0=>[]
 | i+1=>if nth (namesL s) i=((listsL s i).length:Int) then listsL s i ++ [orbitL s i] else listsL s i
theorem listsL_len (s:List Nat):∀ i,(listsL s i).length≤i
 | 0=>Nat.le_refl _
 | i+1=>by
  have:=listsL_len s i
  unfold listsL
  split
  ·rw[List.length_append,List.length_singleton];omega
  ·omega
set_option maxRecDepth 100000 in
set_option maxHeartbeats 2000000 in
theorem r23lists_any (R:Reg) (w:World) (hI:Inv R w) (v:Value) (s:List Nat) (root lone:Int) (hv:FreeI R w v (toI s)) (hS:IsPerm s) (hn:s.length≤100000):
  Calls Tryz.prog 117 #[refV v root lone] w (RetLL R w (listsL s s.length)):=by
 obtain⟨a0,c0,rfl,_⟩:=hv.open
 rw[toI_length] at hv
 unfold refV
 have HNm:=Lib.hid (fun w' (he:Ev R w R w')=>rnames_any R w' he.inv _ s (hv.ev he) hS (by omega))
 have HOr:=Lib.hid (fun w' (he:Ev R w R w') d (hd:d<s.length)=>rorbit_any R w' he.inv _ s (hv.ev he) hS (by omega) d hd)
 have he1:Ev R w R (w.alloc (.cells #[.slice a0 (toI s).length c0,.int .i64 root,.int .i64 lone] 27)):=(Ev.refl hI).alloc _
 have hn1:R w.heap.size=none:=hI.none_of_ge (Nat.le_refl _)
 have hB1:=fun w' (h:Ev R (w.alloc (.cells #[.slice a0 (toI s).length c0,.int .i64 root,.int .i64 lone] 27)) R w')=>h.boxC3 (heap_alloc_new w _) hn1
 have hnl:(namesL s).length=s.length:=(namesGo_inv hS s.length (Nat.le_refl _)).length
 obtain⟨N,hN⟩:∃ N,namesL s=N:=⟨_,rfl⟩
 obtain⟨n,hnn⟩:∃ n,s.length=n:=⟨_,rfl⟩
 rw[toI_length] at he1 hB1 ⊢
 rw[hN] at HNm hnl
 rw[hnn] at HNm HOr he1 hB1 hnl hn ⊢
 have HNe:=Lib.hid hN
 have HNl:=Lib.hid hnl
 have HNn:=Lib.hid hnn
 clear hI hv hS hN hnn hnl
 go_enter Tryz.func117,Tryz.ntmps117
 go_upto_region 1 with fail
 try simp only[toI_length,HNn.out]
 obtain⟨wa,hwa⟩:∃ wa,w.alloc (.cells #[.slice a0 n c0,.int .i64 root,.int .i64 lone] 27)=wa:=⟨_,rfl⟩
 rw[hwa] at he1 hB1 ⊢
 have HB1:=Lib.hid (fun w' (h:Ev R wa R w')=>boxC_cells (hB1 w' h).1)
 have HEa:=Lib.hid he1
 have HIa:=Lib.hid he1.inv
 obtain⟨x0,x1,x2,_⟩:=HB1.out _ (Ev.refl he1.inv)
 clear he1 hB1 hwa hn1
 go_wp2_with fail
 refine (HNm.out _ HEa.out).mono ?_
 rintro z w2 ⟨v2,rfl,he2,ho2⟩
 obtain⟨a2,c2,rfl,_⟩:=ho2.ints.open
 rw[HNl.out] at ho2 ⊢
 have HE2:=Lib.hid he2
 have HO2:=Lib.hid ho2
 clear he2 ho2 x0 x1 x2
 go_wp2_with fail
 go_loopg [3,12] n (fun g v3 v12 wr=>∃ (i:Nat),i≤n∧n-i≤g∧v12=.int .i64 (i:Int)∧Ev R w2 R wr∧RowsAt R w2.heap.size wr v3 (listsL s i))
 case atStart=>exact⟨0,Nat.zero_le _,by omega,rfl,Ev.refl HE2.out.inv,none,0,[],rfl,OwnV.nil _ _ _ _ _,RowsLL.nil _ _ _⟩
 case round=>
  obtain⟨i,hin,hg,rfl,hev,hra⟩:=hrel
  have HE:=Lib.hid hev
  obtain⟨a7,c7,vs7,rfl,hov7,hrw7⟩:=hra
  by_cases hi:i<n
  ·obtain⟨l,hl⟩:∃ l,(listsL s i).length=l:=⟨_,rfl⟩
   have hli:l≤i:=by rw[←hl];exact listsL_len s i
   rw[hl] at hov7 hrw7 ⊢
   have HOv7:=Lib.hid hov7
   have HRw7:=Lib.hid hrw7
   have HL:=Lib.hid hl
   obtain⟨g2,rfl,_,_,hc,_⟩:=(HO2.out.ev hev).headAt HNl.out hi
   obtain⟨k,hk⟩:∃ k,nth N i=k:=⟨_,rfl⟩
   rw[hk] at hc
   have hst:listsL s (i+1)=if k=(l:Int) then listsL s i ++ [orbitL s i] else listsL s i:=by
    show (if nth (namesL s) i=((listsL s i).length:Int) then _ else _)=_
    rw[HNe.out,hk,hl]
   have hir:(i:Int)<(n:Int):=by omega
   clear hov7 hrw7 hl hev hk
   by_cases hkl:k=(l:Int)
   ·rw[if_pos hkl] at hst
    have hbe:(k == (l:Int))=true:=by simp[hkl]
    have HSt:=Lib.hid hst
    obtain⟨x0,x1,x2,_⟩:=HB1.out _ (HE2.out.trans HE.out)
    have hor:=HOr.out _ (HEa.out.trans (HE2.out.trans HE.out)) i hi
    have HOrb:=Lib.hid hor
    clear hst hkl hor
    go_wp2_with fail
    refine HOrb.out.mono ?_
    rintro z w4 ⟨v4,rfl,he4,ho4⟩
    obtain⟨a4,c4,rfl,_⟩:=ho4.ints.open
    obtain⟨NY,hNY⟩:∃ N,(orbitL s i).length=N:=⟨_,rfl⟩
    rw[toI_length,hNY] at ho4 ⊢
    have hrow:=rowOk_new ho4 hNY HOv7.out
    have hE8:=(Ev.refl he4.inv).alloc (.cells #[.slice a4 NY c4] 25)
    have HOv8:=Lib.hid ((HOv7.out.ev he4).alloc (.cells #[.slice a4 NY c4] 25))
    have HRw8:=Lib.hid ((HRw7.out.ev he4).ev hE8)
    have HRo8:=Lib.hid (hrow.ev hE8)
    have HE8:=Lib.hid ((HE.out.trans he4).alloc (.cells #[.slice a4 NY c4] 25))
    clear ho4 hrow hE8 he4 hNY x0 x1 x2 HOrb
    go_wp2_with (at_builtin;refine wpList_app_row 134 25 1 24 nilS Tryz.underlying134 islice_info rfl (by decide) (by decide) rfl _ _ rfl HOv8.out rfl ⟨w4.heap.size,0,none⟩ 1 1 [.slice a4 NY c4] rfl ?z0 ?z1 ?z2 ?z3 ?z4 ?z5 ?_)
    try (case z0=>first|rfl|simp)
    case z1=>exact one_cell _ _
    case z2=>exact one_one _ _ _
    case z3=>omega
    case z4=>exact HE8.out.size
    case z5=>exact fun q hq=>HE8.out.inv.none_of_ge hq
    intro v9 w9 ho9 hg9 hs9
    have hra9:=rows_next (xss:=listsL s i) HL.out.symm HRw8.out HRo8.out ho9 hg9 (fun q hq=>(hs9 q hq).imp id (fun h=>by first|exact h|simpa using h))
    rw[←HSt.out] at hra9
    have HRa9:=Lib.hid hra9
    have HE9:=Lib.hid (HE8.out.appV HOv8.out (Nat.le_refl _) hg9)
    clear hra9 ho9 hg9 hs9 HE8 HOv8 HRw8 HRo8
    go_wp2_with fail
    go_roundg (n-(i+1))
    case measure=>omega
    case rel=>exact⟨i+1,by omega,by omega,by go_num,HE9.out,HRa9.out⟩
   ·rw[if_neg hkl] at hst
    have hbe:(k == (l:Int))=false:=beq_eq_false_iff_ne.2 hkl
    have HSt:=Lib.hid hst
    clear hst hkl
    go_wp2_with fail
    go_roundg (n-(i+1))
    case measure=>omega
    case rel=>exact⟨i+1,by omega,by omega,by go_num,HE.out,by rw[HSt.out];exact⟨a7,c7,vs7,by rw[HL.out],by rw[HL.out];exact HOv7.out,by rw[HL.out];exact HRw7.out⟩⟩
  ·obtain rfl:i=n:=by omega
   have HH:=Lib.hid (show Ev R w R wr∧_∧_ from⟨HEa.out.trans (HE2.out.trans hev),hov7.mono (HEa.out.trans HE2.out).size,hrw7⟩)
   clear hov7 hrw7 hev
   go_wp2_with fail
   go_ret
   obtain⟨hev,hov7,hrw7⟩:=HH.out
   exact⟨a7,c7,vs7,rfl,hev,hov7,hrw7⟩
end
end Go.Proofs.YtklkgicjfnbndaaGreat
