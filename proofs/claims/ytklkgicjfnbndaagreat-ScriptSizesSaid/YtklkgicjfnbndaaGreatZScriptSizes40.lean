/- script.Do, kind by kind, at a map. Conditions: at most 60000 vertices without darts where an edge goes. script.Do: of any kind, at a map; at nil. Conditions: at most 60000 vertices without darts. parquetryref23.lists: each vertex's darts. Conditions: at most 100000 darts. -/
import Derived.Test.YtklkgicjfnbndaaGreatZScriptSizes38
import Derived.Test.YtklkgicjfnbndaaGreatZScriptSizes39
import Derived.Test.YtklkgicjfnbndaaGreatZScriptSizes36
namespace Go.Proofs.YtklkgicjfnbndaaGreat
open Go.RowKit
set_option linter.unusedVariables false

theorem cell_new2 (w : World) (o : Obj) (v : Value) (T : TypeId) : ((w.alloc o).alloc (.cells #[v] T)).cell? ⟨w.heap.size + 1, 0, none⟩ = some v := by
  have h := heap_alloc_new (w.alloc o) (.cells #[v] T)
  rw [World.size_alloc] at h
  exact cells_at h 0
set_option maxRecDepth 100000 in
set_option maxHeartbeats 1000000 in
theorem sdo_0 (R : Reg) (w : World) (hI : Inv R w) (p : Value) (s : List Nat) (root : Int) (lone : Nat) (hp : MapAt R p s root lone) (D E : Int)  :
    Calls Tryz.prog 32 #[p, .agg #[.int .i64 0, .int .i64 D, .int .i64 E]] w (ActPost R w (wayC s root lone 0 D E) (wayL s 0 D E) (root) (lone)) := by
  have he1 : Ev R w R (w.alloc (.cells #[.int .i64 0, .int .i64 D, .int .i64 E] 50)) := (Ev.refl hI).alloc _
  have he2 : Ev R w R ((w.alloc (.cells #[.int .i64 0, .int .i64 D, .int .i64 E] 50)).alloc (.cells #[.func (.func 43) #[] #[]] 32)) := he1.trans ((Ev.refl he1.inv).alloc _)
  have he3 : Ev R w R (((w.alloc (.cells #[.int .i64 0, .int .i64 D, .int .i64 E] 50)).alloc (.cells #[.func (.func 43) #[] #[]] 32)).alloc (.cells #[.int .i64 0, .int .i64 D, .int .i64 E] 50)) := he2.trans ((Ev.refl he2.inv).alloc _)
  have hc := cell_new2 w (.cells #[.int .i64 0, .int .i64 D, .int .i64 E] 50) (.func (.func 43) #[] #[]) 32
  have hf := ((leaf_any R _ he3.inv p s root lone (he3.map hp) D).mono fun e w' h => (show ActPost R w (wayC s root lone 0 D E) (wayL s 0 D E) root lone e w' from (WayPost.act h).older he3))
  obtain ⟨cc, hcc⟩ : ∃ c : Int, ((wayC s root lone 0 D E : Int)) = c := ⟨_, rfl⟩
  rw [hcc] at hf ⊢
  clear hcc
  have HF := Lib.hid hf
  have HBy := Lib.hid (by_0 (w.alloc (.cells #[.int .i64 0, .int .i64 D, .int .i64 E] 50)))
  have hen := @eql_func
  obtain ⟨b0, rfl, hb0⟩ := hp
  
  clear hI he1 he2 he3 hb0 hf
  go_enter Tryz.func32, Tryz.ntmps32
  go_wp2_with fail
  refine HBy.out.mono ?_
  rintro e w' ⟨rfl, rfl⟩
  try rw [World.size_alloc]
  go_wp2_with fail
  refine (at_0 _ _ _ hc _ _ _ _ (fun e w' h => h.two) HF.out).mono ?_
  rintro e w' hpo
  obtain ⟨q, c, rfl⟩ := hpo.two
  have HPo := Lib.hid hpo
  clear hpo
  go_wp2_with fail
  first | exact HPo.out | (go_ret2; exact HPo.out)
set_option maxRecDepth 100000 in
set_option maxHeartbeats 1000000 in
theorem sdo_2 (R : Reg) (w : World) (hI : Inv R w) (p : Value) (s : List Nat) (root : Int) (lone : Nat) (hp : MapAt R p s root lone) (D E : Int)  :
    Calls Tryz.prog 32 #[p, .agg #[.int .i64 2, .int .i64 D, .int .i64 E]] w (ActPost R w (wayC s root lone 2 D E) (wayL s 2 D E) (root) (lone)) := by
  have he1 : Ev R w R (w.alloc (.cells #[.int .i64 2, .int .i64 D, .int .i64 E] 50)) := (Ev.refl hI).alloc _
  have he2 : Ev R w R ((w.alloc (.cells #[.int .i64 2, .int .i64 D, .int .i64 E] 50)).alloc (.cells #[.func (.func 63) #[] #[]] 32)) := he1.trans ((Ev.refl he1.inv).alloc _)
  have he3 : Ev R w R (((w.alloc (.cells #[.int .i64 2, .int .i64 D, .int .i64 E] 50)).alloc (.cells #[.func (.func 63) #[] #[]] 32)).alloc (.cells #[.int .i64 2, .int .i64 D, .int .i64 E] 50)) := he2.trans ((Ev.refl he2.inv).alloc _)
  have hc := cell_new2 w (.cells #[.int .i64 2, .int .i64 D, .int .i64 E] 50) (.func (.func 63) #[] #[]) 32
  have hf := ((split_any R _ he3.inv p s root lone (he3.map hp) D).mono fun e w' h => (show ActPost R w (wayC s root lone 2 D E) (wayL s 2 D E) root lone e w' from (WayPost.act h).older he3))
  obtain ⟨cc, hcc⟩ : ∃ c : Int, ((wayC s root lone 2 D E : Int)) = c := ⟨_, rfl⟩
  rw [hcc] at hf ⊢
  clear hcc
  have HF := Lib.hid hf
  have HBy := Lib.hid (by_2 (w.alloc (.cells #[.int .i64 2, .int .i64 D, .int .i64 E] 50)))
  have hen := @eql_func
  obtain ⟨b0, rfl, hb0⟩ := hp
  
  clear hI he1 he2 he3 hb0 hf
  go_enter Tryz.func32, Tryz.ntmps32
  go_wp2_with fail
  refine HBy.out.mono ?_
  rintro e w' ⟨rfl, rfl⟩
  try rw [World.size_alloc]
  go_wp2_with fail
  refine (at_2 _ _ _ hc _ _ _ _ (fun e w' h => h.two) HF.out).mono ?_
  rintro e w' hpo
  obtain ⟨q, c, rfl⟩ := hpo.two
  have HPo := Lib.hid hpo
  clear hpo
  go_wp2_with fail
  first | exact HPo.out | (go_ret2; exact HPo.out)
set_option maxRecDepth 100000 in
set_option maxHeartbeats 1000000 in
theorem sdo_3 (R : Reg) (w : World) (hI : Inv R w) (p : Value) (s : List Nat) (root : Int) (lone : Nat) (hp : MapAt R p s root lone) (D E : Int)  :
    Calls Tryz.prog 32 #[p, .agg #[.int .i64 3, .int .i64 D, .int .i64 E]] w (ActPost R w (wayC s root lone 3 D E) (wayL s 3 D E) (root) (lone)) := by
  have he1 : Ev R w R (w.alloc (.cells #[.int .i64 3, .int .i64 D, .int .i64 E] 50)) := (Ev.refl hI).alloc _
  have he2 : Ev R w R ((w.alloc (.cells #[.int .i64 3, .int .i64 D, .int .i64 E] 50)).alloc (.cells #[.func (.func 12) #[] #[]] 32)) := he1.trans ((Ev.refl he1.inv).alloc _)
  have he3 : Ev R w R (((w.alloc (.cells #[.int .i64 3, .int .i64 D, .int .i64 E] 50)).alloc (.cells #[.func (.func 12) #[] #[]] 32)).alloc (.cells #[.int .i64 3, .int .i64 D, .int .i64 E] 50)) := he2.trans ((Ev.refl he2.inv).alloc _)
  have hc := cell_new2 w (.cells #[.int .i64 3, .int .i64 D, .int .i64 E] 50) (.func (.func 12) #[] #[]) 32
  have hf := ((star_any R _ he3.inv p s root lone (he3.map hp) D).mono fun e w' h => (show ActPost R w (wayC s root lone 3 D E) (wayL s 3 D E) root lone e w' from (WayPost.act h).older he3))
  obtain ⟨cc, hcc⟩ : ∃ c : Int, ((wayC s root lone 3 D E : Int)) = c := ⟨_, rfl⟩
  rw [hcc] at hf ⊢
  clear hcc
  have HF := Lib.hid hf
  have HBy := Lib.hid (by_3 (w.alloc (.cells #[.int .i64 3, .int .i64 D, .int .i64 E] 50)))
  have hen := @eql_func
  obtain ⟨b0, rfl, hb0⟩ := hp
  
  clear hI he1 he2 he3 hb0 hf
  go_enter Tryz.func32, Tryz.ntmps32
  go_wp2_with fail
  refine HBy.out.mono ?_
  rintro e w' ⟨rfl, rfl⟩
  try rw [World.size_alloc]
  go_wp2_with fail
  refine (at_3 _ _ _ hc _ _ _ _ (fun e w' h => h.two) HF.out).mono ?_
  rintro e w' hpo
  obtain ⟨q, c, rfl⟩ := hpo.two
  have HPo := Lib.hid hpo
  clear hpo
  go_wp2_with fail
  first | exact HPo.out | (go_ret2; exact HPo.out)
set_option maxRecDepth 100000 in
set_option maxHeartbeats 1000000 in
theorem sdo_4 (R : Reg) (w : World) (hI : Inv R w) (p : Value) (s : List Nat) (root : Int) (lone : Nat) (hp : MapAt R p s root lone) (D E : Int)  :
    Calls Tryz.prog 32 #[p, .agg #[.int .i64 4, .int .i64 D, .int .i64 E]] w (ActPost R w (wayC s root lone 4 D E) (wayL s 4 D E) (root) (lone)) := by
  have he1 : Ev R w R (w.alloc (.cells #[.int .i64 4, .int .i64 D, .int .i64 E] 50)) := (Ev.refl hI).alloc _
  have he2 : Ev R w R ((w.alloc (.cells #[.int .i64 4, .int .i64 D, .int .i64 E] 50)).alloc (.cells #[.func (.func 16) #[] #[]] 32)) := he1.trans ((Ev.refl he1.inv).alloc _)
  have he3 : Ev R w R (((w.alloc (.cells #[.int .i64 4, .int .i64 D, .int .i64 E] 50)).alloc (.cells #[.func (.func 16) #[] #[]] 32)).alloc (.cells #[.int .i64 4, .int .i64 D, .int .i64 E] 50)) := he2.trans ((Ev.refl he2.inv).alloc _)
  have hc := cell_new2 w (.cells #[.int .i64 4, .int .i64 D, .int .i64 E] 50) (.func (.func 16) #[] #[]) 32
  have hf := ((flip_any R _ he3.inv p s root lone (he3.map hp) D).mono fun e w' h => (show ActPost R w (wayC s root lone 4 D E) (wayL s 4 D E) root lone e w' from (WayPost.act h).older he3))
  obtain ⟨cc, hcc⟩ : ∃ c : Int, ((wayC s root lone 4 D E : Int)) = c := ⟨_, rfl⟩
  rw [hcc] at hf ⊢
  clear hcc
  have HF := Lib.hid hf
  have HBy := Lib.hid (by_4 (w.alloc (.cells #[.int .i64 4, .int .i64 D, .int .i64 E] 50)))
  have hen := @eql_func
  obtain ⟨b0, rfl, hb0⟩ := hp
  
  clear hI he1 he2 he3 hb0 hf
  go_enter Tryz.func32, Tryz.ntmps32
  go_wp2_with fail
  refine HBy.out.mono ?_
  rintro e w' ⟨rfl, rfl⟩
  try rw [World.size_alloc]
  go_wp2_with fail
  refine (at_4 _ _ _ hc _ _ _ _ (fun e w' h => h.two) HF.out).mono ?_
  rintro e w' hpo
  obtain ⟨q, c, rfl⟩ := hpo.two
  have HPo := Lib.hid hpo
  clear hpo
  go_wp2_with fail
  first | exact HPo.out | (go_ret2; exact HPo.out)
set_option maxRecDepth 100000 in
set_option maxHeartbeats 1000000 in
theorem sdo_1 (R : Reg) (w : World) (hI : Inv R w) (p : Value) (s : List Nat) (root : Int) (lone : Nat) (hp : MapAt R p s root lone) (D E : Int)  :
    Calls Tryz.prog 32 #[p, .agg #[.int .i64 1, .int .i64 D, .int .i64 E]] w (ActPost R w (wayC s root lone 1 D E) (wayL s 1 D E) (root) (lone)) := by
  have he1 : Ev R w R (w.alloc (.cells #[.int .i64 1, .int .i64 D, .int .i64 E] 50)) := (Ev.refl hI).alloc _
  have he2 := he1
  have he3 : Ev R w R ((w.alloc (.cells #[.int .i64 1, .int .i64 D, .int .i64 E] 50)).alloc (.cells #[.int .i64 1, .int .i64 D, .int .i64 E] 50)) := he2.trans ((Ev.refl he2.inv).alloc _)
  
  have hf := ((chord_any R _ he3.inv p s root lone (he3.map hp) D E).mono fun e w' h => (show ActPost R w (wayC s root lone 1 D E) (wayL s 1 D E) root lone e w' from (WayPost.act h).older he3))
  obtain ⟨cc, hcc⟩ : ∃ c : Int, ((wayC s root lone 1 D E : Int)) = c := ⟨_, rfl⟩
  rw [hcc] at hf ⊢
  clear hcc
  have HF := Lib.hid hf
  have HBy := Lib.hid (by_1 (w.alloc (.cells #[.int .i64 1, .int .i64 D, .int .i64 E] 50)))
  have hen := @eql_func
  obtain ⟨b0, rfl, hb0⟩ := hp
  
  clear hI he1 he2 he3 hb0 hf
  go_enter Tryz.func32, Tryz.ntmps32
  go_wp2_with fail
  refine HBy.out.mono ?_
  rintro e w' ⟨rfl, rfl⟩
  try rw [World.size_alloc]
  go_wp2_with fail
  refine (at_1 _ _ _ _ _ _ (fun e w' h => h.two) HF.out).mono ?_
  rintro e w' hpo
  obtain ⟨q, c, rfl⟩ := hpo.two
  have HPo := Lib.hid hpo
  clear hpo
  go_wp2_with fail
  first | exact HPo.out | (go_ret2; exact HPo.out)
set_option maxRecDepth 100000 in
set_option maxHeartbeats 1000000 in
theorem sdo_5 (R : Reg) (w : World) (hI : Inv R w) (p : Value) (s : List Nat) (root : Int) (lone : Nat) (hp : MapAt R p s root lone) (D E : Int)  :
    Calls Tryz.prog 32 #[p, .agg #[.int .i64 5, .int .i64 D, .int .i64 E]] w (ActPost R w (if inR s.length D = true then 0 else 5) (s) (D) (lone)) := by
  have he1 : Ev R w R (w.alloc (.cells #[.int .i64 5, .int .i64 D, .int .i64 E] 50)) := (Ev.refl hI).alloc _
  have he2 : Ev R w R ((w.alloc (.cells #[.int .i64 5, .int .i64 D, .int .i64 E] 50)).alloc (.cells #[.func (.func 107) #[] #[]] 32)) := he1.trans ((Ev.refl he1.inv).alloc _)
  have he3 : Ev R w R (((w.alloc (.cells #[.int .i64 5, .int .i64 D, .int .i64 E] 50)).alloc (.cells #[.func (.func 107) #[] #[]] 32)).alloc (.cells #[.int .i64 5, .int .i64 D, .int .i64 E] 50)) := he2.trans ((Ev.refl he2.inv).alloc _)
  have hc := cell_new2 w (.cells #[.int .i64 5, .int .i64 D, .int .i64 E] 50) (.func (.func 107) #[] #[]) 32
  have hf := ((rooted_any R _ he3.inv p s root lone (he3.map hp) D).mono fun e w' h => (RootedPost.act h).older he3)
  obtain ⟨cc, hcc⟩ : ∃ c : Int, ((if inR s.length D = true then 0 else 5 : Int)) = c := ⟨_, rfl⟩
  rw [hcc] at hf ⊢
  clear hcc
  have HF := Lib.hid hf
  have HBy := Lib.hid (by_5 (w.alloc (.cells #[.int .i64 5, .int .i64 D, .int .i64 E] 50)))
  have hen := @eql_func
  obtain ⟨b0, rfl, hb0⟩ := hp
  
  clear hI he1 he2 he3 hb0 hf
  go_enter Tryz.func32, Tryz.ntmps32
  go_wp2_with fail
  refine HBy.out.mono ?_
  rintro e w' ⟨rfl, rfl⟩
  try rw [World.size_alloc]
  go_wp2_with fail
  refine (at_5 _ _ _ hc _ _ _ _ (fun e w' h => h.two) HF.out).mono ?_
  rintro e w' hpo
  obtain ⟨q, c, rfl⟩ := hpo.two
  have HPo := Lib.hid hpo
  clear hpo
  go_wp2_with fail
  first | exact HPo.out | (go_ret2; exact HPo.out)
set_option maxRecDepth 100000 in
set_option maxHeartbeats 1000000 in
theorem sdo_6 (R : Reg) (w : World) (hI : Inv R w) (p : Value) (s : List Nat) (root : Int) (lone : Nat) (hp : MapAt R p s root lone) (D E : Int)  :
    Calls Tryz.prog 32 #[p, .agg #[.int .i64 6, .int .i64 D, .int .i64 E]] w (ActPost R w (0) (phiL s) (root) (lone)) := by
  have he1 : Ev R w R (w.alloc (.cells #[.int .i64 6, .int .i64 D, .int .i64 E] 50)) := (Ev.refl hI).alloc _
  have he2 : Ev R w R ((w.alloc (.cells #[.int .i64 6, .int .i64 D, .int .i64 E] 50)).alloc (.cells #[.func (.func 109) #[] #[]] 131)) := he1.trans ((Ev.refl he1.inv).alloc _)
  have he3 : Ev R w R (((w.alloc (.cells #[.int .i64 6, .int .i64 D, .int .i64 E] 50)).alloc (.cells #[.func (.func 109) #[] #[]] 131)).alloc (.cells #[.int .i64 6, .int .i64 D, .int .i64 E] 50)) := he2.trans ((Ev.refl he2.inv).alloc _)
  have hc := cell_new2 w (.cells #[.int .i64 6, .int .i64 D, .int .i64 E] 50) (.func (.func 109) #[] #[]) 131
  have hf := ((dual_any R _ he3.inv p s root lone (he3.map hp)).mono fun (e : Ending) (w' : World) ⟨q, R', h1, h2, h3⟩ => (⟨q, h1, q, R', rfl, he3.trans h2, fun h => absurd rfl h, fun _ => h3⟩ : ∃ q, e = Ending.returned q ∧ ActPost R w 0 (phiL s) root lone (.returned (.tuple #[q, .int .i64 0])) w'))
  have HF := Lib.hid hf
  have HBy := Lib.hid (by_6 (w.alloc (.cells #[.int .i64 6, .int .i64 D, .int .i64 E] 50)))
  have hen := @eql_func
  obtain ⟨b0, rfl, hb0⟩ := hp
  
  clear hI he1 he2 he3 hb0 hf
  go_enter Tryz.func32, Tryz.ntmps32
  go_wp2_with fail
  refine HBy.out.mono ?_
  rintro e w' ⟨rfl, rfl⟩
  try rw [World.size_alloc]
  go_wp2_with fail
  refine (at_6 _ _ _ hc _ _ _ _ HF.out).mono ?_
  rintro e w' hpo
  obtain ⟨q, c, rfl⟩ := hpo.two
  have HPo := Lib.hid hpo
  clear hpo
  go_wp2_with fail
  first | exact HPo.out | (go_ret2; exact HPo.out)
set_option maxRecDepth 100000 in
set_option maxHeartbeats 1000000 in
theorem sdo_7 (R : Reg) (w : World) (hI : Inv R w) (p : Value) (s : List Nat) (root : Int) (lone : Nat) (hp : MapAt R p s root lone) (D E : Int)  :
    Calls Tryz.prog 32 #[p, .agg #[.int .i64 7, .int .i64 D, .int .i64 E]] w (ActPost R w (0) (invL s) (root) (lone)) := by
  have he1 : Ev R w R (w.alloc (.cells #[.int .i64 7, .int .i64 D, .int .i64 E] 50)) := (Ev.refl hI).alloc _
  have he2 : Ev R w R ((w.alloc (.cells #[.int .i64 7, .int .i64 D, .int .i64 E] 50)).alloc (.cells #[.func (.func 110) #[] #[]] 131)) := he1.trans ((Ev.refl he1.inv).alloc _)
  have he3 : Ev R w R (((w.alloc (.cells #[.int .i64 7, .int .i64 D, .int .i64 E] 50)).alloc (.cells #[.func (.func 110) #[] #[]] 131)).alloc (.cells #[.int .i64 7, .int .i64 D, .int .i64 E] 50)) := he2.trans ((Ev.refl he2.inv).alloc _)
  have hc := cell_new2 w (.cells #[.int .i64 7, .int .i64 D, .int .i64 E] 50) (.func (.func 110) #[] #[]) 131
  have hf := ((mirror_any R _ he3.inv p s root lone (he3.map hp)).mono fun (e : Ending) (w' : World) ⟨q, R', h1, h2, h3⟩ => (⟨q, h1, q, R', rfl, he3.trans h2, fun h => absurd rfl h, fun _ => h3⟩ : ∃ q, e = Ending.returned q ∧ ActPost R w 0 (invL s) root lone (.returned (.tuple #[q, .int .i64 0])) w'))
  have HF := Lib.hid hf
  have HBy := Lib.hid (by_7 (w.alloc (.cells #[.int .i64 7, .int .i64 D, .int .i64 E] 50)))
  have hen := @eql_func
  obtain ⟨b0, rfl, hb0⟩ := hp
  
  clear hI he1 he2 he3 hb0 hf
  go_enter Tryz.func32, Tryz.ntmps32
  go_wp2_with fail
  refine HBy.out.mono ?_
  rintro e w' ⟨rfl, rfl⟩
  try rw [World.size_alloc]
  go_wp2_with fail
  refine (at_7 _ _ _ hc _ _ _ _ HF.out).mono ?_
  rintro e w' hpo
  obtain ⟨q, c, rfl⟩ := hpo.two
  have HPo := Lib.hid hpo
  clear hpo
  go_wp2_with fail
  first | exact HPo.out | (go_ret2; exact HPo.out)
set_option maxRecDepth 100000 in
set_option maxHeartbeats 1000000 in
theorem sdo_10 (R : Reg) (w : World) (hI : Inv R w) (p : Value) (s : List Nat) (root : Int) (lone : Nat) (hp : MapAt R p s root lone) (D E : Int)  :
    Calls Tryz.prog 32 #[p, .agg #[.int .i64 10, .int .i64 D, .int .i64 E]] w (ActPost R w (0) (canM s root) (canR s root) (lone)) := by
  have he1 : Ev R w R (w.alloc (.cells #[.int .i64 10, .int .i64 D, .int .i64 E] 50)) := (Ev.refl hI).alloc _
  have he2 := he1
  have he3 : Ev R w R ((w.alloc (.cells #[.int .i64 10, .int .i64 D, .int .i64 E] 50)).alloc (.cells #[.int .i64 10, .int .i64 D, .int .i64 E] 50)) := he2.trans ((Ev.refl he2.inv).alloc _)
  
  have hf := ((canon_any R _ he3.inv p s root lone (he3.map hp)).mono fun (e : Ending) (w' : World) ⟨q, pm, R', h1, h2, h3, h4⟩ => (⟨q, pm, 0, h1, q, R', rfl, he3.trans h2, fun h => absurd rfl h, fun _ => h3⟩ : ∃ q pm c, e = Ending.returned (.tuple #[q, pm, .int .i64 c]) ∧ ActPost R w 0 (canM s root) (canR s root) lone (.returned (.tuple #[q, .int .i64 c])) w'))
  have HF := Lib.hid hf
  have HBy := Lib.hid (by_10 (w.alloc (.cells #[.int .i64 10, .int .i64 D, .int .i64 E] 50)))
  have hen := @eql_func
  obtain ⟨b0, rfl, hb0⟩ := hp
  
  clear hI he1 he2 he3 hb0 hf
  go_enter Tryz.func32, Tryz.ntmps32
  go_wp2_with fail
  refine HBy.out.mono ?_
  rintro e w' ⟨rfl, rfl⟩
  try rw [World.size_alloc]
  go_wp2_with fail
  refine (at_10 _ _ _ _ _ _ HF.out).mono ?_
  rintro e w' hpo
  obtain ⟨q, c, rfl⟩ := hpo.two
  have HPo := Lib.hid hpo
  clear hpo
  go_wp2_with fail
  first | exact HPo.out | (go_ret2; exact HPo.out)
set_option maxRecDepth 100000 in
set_option maxHeartbeats 1000000 in
theorem sdo_8 (R : Reg) (w : World) (hI : Inv R w) (p : Value) (s : List Nat) (root : Int) (lone : Nat) (hp : MapAt R p s root lone) (E : Int) (d : Nat) (hdb : d < 9223372036854775808) (hlb : lone ≤ 60000) :
    Calls Tryz.prog 32 #[p, .agg #[.int .i64 8, .int .i64 (d : Int), .int .i64 E]] w (ActPost R w (if d < s.length then 0 else 1) (doneL s (d / 2)) (rootL s (d / 2) root.toNat) (lone + cutLone s (d / 2))) := by
  have he1 : Ev R w R (w.alloc (.cells #[.int .i64 8, .int .i64 (d : Int), .int .i64 E] 50)) := (Ev.refl hI).alloc _
  have he2 : Ev R w R ((w.alloc (.cells #[.int .i64 8, .int .i64 (d : Int), .int .i64 E] 50)).alloc (.cells #[.func (.func 22) #[] #[]] 32)) := he1.trans ((Ev.refl he1.inv).alloc _)
  have he3 : Ev R w R (((w.alloc (.cells #[.int .i64 8, .int .i64 (d : Int), .int .i64 E] 50)).alloc (.cells #[.func (.func 22) #[] #[]] 32)).alloc (.cells #[.int .i64 8, .int .i64 (d : Int), .int .i64 E] 50)) := he2.trans ((Ev.refl he2.inv).alloc _)
  have hc := cell_new2 w (.cells #[.int .i64 8, .int .i64 (d : Int), .int .i64 E] 50) (.func (.func 22) #[] #[]) 32
  have hq0 : wrap64 ((d : Int) / 2) = ((d / 2 : Nat) : Int) := by
    have h : ((d : Int) / 2) = ((d / 2 : Nat) : Int) := by omega
    rw [h]
    exact IntWalk.wrap64_in _ (by omega)
  have hf := (by
    have hok := (hp.ok hI).2
    have hev := hok.1
    by_cases hd : d < s.length
    · rw [if_pos hd]
      exact (cut_any R _ he3.inv p s root lone (he3.map hp) (d / 2) (by omega) (by omega)).mono fun e w' h => (NewYes.act h).older he3
    · rw [if_neg hd]
      exact (dcut_out R _ he3.inv p s root lone (he3.map hp) ((d / 2 : Nat) : Int) (by omega)).mono fun e w' ⟨h, he⟩ => ⟨_, R, h, he ▸ he3, fun _ => rfl, fun h => by omega⟩ : Calls Tryz.prog 22 #[p, .int .i64 ((d / 2 : Nat) : Int)] (((w.alloc (.cells #[.int .i64 8, .int .i64 (d : Int), .int .i64 E] 50)).alloc (.cells #[.func (.func 22) #[] #[]] 32)).alloc (.cells #[.int .i64 8, .int .i64 (d : Int), .int .i64 E] 50)) (ActPost R w (if d < s.length then 0 else 1) (doneL s (d / 2)) (rootL s (d / 2) root.toNat) (lone + cutLone s (d / 2))))
  obtain ⟨cc, hcc⟩ : ∃ c : Int, ((if d < s.length then 0 else 1 : Int)) = c := ⟨_, rfl⟩
  rw [hcc] at hf ⊢
  clear hcc
  have HF := Lib.hid hf
  have HBy := Lib.hid (by_8 (w.alloc (.cells #[.int .i64 8, .int .i64 (d : Int), .int .i64 E] 50)))
  have hen := @eql_func
  obtain ⟨b0, rfl, hb0⟩ := hp
  
  clear hI he1 he2 he3 hb0 hf
  go_enter Tryz.func32, Tryz.ntmps32
  go_wp2_with fail
  refine HBy.out.mono ?_
  rintro e w' ⟨rfl, rfl⟩
  try rw [World.size_alloc]
  go_wp2_with fail
  refine (at_8 _ _ _ hc _ _ _ _ hq0 _ (fun e w' h => h.two) HF.out).mono ?_
  rintro e w' hpo
  obtain ⟨q, c, rfl⟩ := hpo.two
  have HPo := Lib.hid hpo
  clear hpo
  go_wp2_with fail
  first | exact HPo.out | (go_ret2; exact HPo.out)
set_option maxRecDepth 100000 in
set_option maxHeartbeats 1000000 in
theorem sdo_9 (R : Reg) (w : World) (hI : Inv R w) (p : Value) (s : List Nat) (root : Int) (lone : Nat) (hp : MapAt R p s root lone) (E : Int) (d : Nat) (hdb : d < 9223372036854775808) (hlb : lone ≤ 60000) :
    Calls Tryz.prog 32 #[p, .agg #[.int .i64 9, .int .i64 (d : Int), .int .i64 E]] w (ActPost R w (if d < s.length then (if nth (namesL s) (2 * (d / 2)) = nth (namesL s) (2 * (d / 2) + 1) then 8 else 0) else 1) (doneL (exL s (d / 2)) (d / 2)) (rootL s (d / 2) root.toNat) (lone + shrLone s (d / 2))) := by
  have he1 : Ev R w R (w.alloc (.cells #[.int .i64 9, .int .i64 (d : Int), .int .i64 E] 50)) := (Ev.refl hI).alloc _
  have he2 : Ev R w R ((w.alloc (.cells #[.int .i64 9, .int .i64 (d : Int), .int .i64 E] 50)).alloc (.cells #[.func (.func 20) #[] #[]] 32)) := he1.trans ((Ev.refl he1.inv).alloc _)
  have he3 : Ev R w R (((w.alloc (.cells #[.int .i64 9, .int .i64 (d : Int), .int .i64 E] 50)).alloc (.cells #[.func (.func 20) #[] #[]] 32)).alloc (.cells #[.int .i64 9, .int .i64 (d : Int), .int .i64 E] 50)) := he2.trans ((Ev.refl he2.inv).alloc _)
  have hc := cell_new2 w (.cells #[.int .i64 9, .int .i64 (d : Int), .int .i64 E] 50) (.func (.func 20) #[] #[]) 32
  have hq0 : wrap64 ((d : Int) / 2) = ((d / 2 : Nat) : Int) := by
    have h : ((d : Int) / 2) = ((d / 2 : Nat) : Int) := by omega
    rw [h]
    exact IntWalk.wrap64_in _ (by omega)
  have hf := (by
    have hok := (hp.ok hI).2
    have hev := hok.1
    by_cases hd : d < s.length
    · rw [if_pos hd]
      by_cases hl : nth (namesL s) (2 * (d / 2)) = nth (namesL s) (2 * (d / 2) + 1)
      · rw [if_pos hl]
        exact (dshrink_loop R _ he3.inv p s root lone (he3.map hp) (d / 2) (by omega) hl).mono fun e w' ⟨h, R', he⟩ => ⟨_, R', h, he3.trans he, fun _ => rfl, fun h => by omega⟩
      · rw [if_neg hl]
        exact (shrink_any R _ he3.inv p s root lone (he3.map hp) (d / 2) (by omega) (by omega) hl).mono fun e w' h => (NewYes.act h).older he3
    · rw [if_neg hd]
      exact (dshrink_out R _ he3.inv p s root lone (he3.map hp) ((d / 2 : Nat) : Int) (by omega)).mono fun e w' ⟨h, he⟩ => ⟨_, R, h, he ▸ he3, fun _ => rfl, fun h => by omega⟩ : Calls Tryz.prog 20 #[p, .int .i64 ((d / 2 : Nat) : Int)] (((w.alloc (.cells #[.int .i64 9, .int .i64 (d : Int), .int .i64 E] 50)).alloc (.cells #[.func (.func 20) #[] #[]] 32)).alloc (.cells #[.int .i64 9, .int .i64 (d : Int), .int .i64 E] 50)) (ActPost R w (if d < s.length then (if nth (namesL s) (2 * (d / 2)) = nth (namesL s) (2 * (d / 2) + 1) then 8 else 0) else 1) (doneL (exL s (d / 2)) (d / 2)) (rootL s (d / 2) root.toNat) (lone + shrLone s (d / 2))))
  obtain ⟨cc, hcc⟩ : ∃ c : Int, ((if d < s.length then (if nth (namesL s) (2 * (d / 2)) = nth (namesL s) (2 * (d / 2) + 1) then 8 else 0) else 1 : Int)) = c := ⟨_, rfl⟩
  rw [hcc] at hf ⊢
  clear hcc
  have HF := Lib.hid hf
  have HBy := Lib.hid (by_9 (w.alloc (.cells #[.int .i64 9, .int .i64 (d : Int), .int .i64 E] 50)))
  have hen := @eql_func
  obtain ⟨b0, rfl, hb0⟩ := hp
  
  clear hI he1 he2 he3 hb0 hf
  go_enter Tryz.func32, Tryz.ntmps32
  go_wp2_with fail
  refine HBy.out.mono ?_
  rintro e w' ⟨rfl, rfl⟩
  try rw [World.size_alloc]
  go_wp2_with fail
  refine (at_9 _ _ _ hc _ _ _ _ hq0 _ (fun e w' h => h.two) HF.out).mono ?_
  rintro e w' hpo
  obtain ⟨q, c, rfl⟩ := hpo.two
  have HPo := Lib.hid hpo
  clear hpo
  go_wp2_with fail
  first | exact HPo.out | (go_ret2; exact HPo.out)
end Go.Proofs.YtklkgicjfnbndaaGreat

namespace Go.Proofs.YtklkgicjfnbndaaGreat
open Go.RowKit
set_option linter.unusedVariables false

/-- what an act comes to: its code; the list, the root, how many vertices without darts -/
noncomputable def actC (s : List Nat) (root lone k D E : Int) : Int :=
  if k < 0 ∨ 10 < k then 15 else
  match k.toNat with
  | 5 => if inR s.length D = true then 0 else 5
  | 6 => 0
  | 7 => 0
  | 8 => if D < 0 then 1 else if D.toNat < s.length then 0 else 1
  | 9 => if D < 0 then 1 else if D.toNat < s.length then (if nth (namesL s) (2 * (D.toNat / 2)) = nth (namesL s) (2 * (D.toNat / 2) + 1) then 8 else 0) else 1
  | 10 => 0
  | n => wayC s root lone n D E
noncomputable def actM (s : List Nat) (root k D E : Int) : List Nat :=
  match k.toNat with
  | 5 => s
  | 6 => phiL s
  | 7 => invL s
  | 8 => doneL s (D.toNat / 2)
  | 9 => doneL (exL s (D.toNat / 2)) (D.toNat / 2)
  | 10 => canM s root
  | n => wayL s n D E
noncomputable def actRt (s : List Nat) (root k D : Int) : Int :=
  match k.toNat with
  | 5 => D
  | 8 => rootL s (D.toNat / 2) root.toNat
  | 9 => rootL s (D.toNat / 2) root.toNat
  | 10 => canR s root
  | _ => root
def actLn (s : List Nat) (lone k D : Int) : Int :=
  match k.toNat with
  | 8 => lone + cutLone s (D.toNat / 2)
  | 9 => lone + shrLone s (D.toNat / 2)
  | _ => lone

set_option maxRecDepth 100000 in
set_option maxHeartbeats 1000000 in
theorem by_out (w : World) (k : Int) (hk : k < 0 ∨ 10 < k) : Calls Tryz.prog 70 #[.int .i64 k] w fun e w' => e = .returned .nilFunc ∧ w' = w := by
  have n0 : (k == (0 : Int)) = false := by simp; omega
  have n1 : (k == (1 : Int)) = false := by simp; omega
  have n2 : (k == (2 : Int)) = false := by simp; omega
  have n3 : (k == (3 : Int)) = false := by simp; omega
  have n4 : (k == (4 : Int)) = false := by simp; omega
  have n5 : (k == (5 : Int)) = false := by simp; omega
  have n6 : (k == (6 : Int)) = false := by simp; omega
  have n7 : (k == (7 : Int)) = false := by simp; omega
  have n8 : (k == (8 : Int)) = false := by simp; omega
  have n9 : (k == (9 : Int)) = false := by simp; omega
  have n10 : (k == (10 : Int)) = false := by simp; omega
  go_enter Tryz.func70, Tryz.ntmps70
  go_wp2_with fail
  go_ret
  exact ⟨rfl, rfl⟩
set_option maxRecDepth 100000 in
theorem sdo_out (R : Reg) (w : World) (hI : Inv R w) (p : Value) (s : List Nat) (root lone : Int) (hp : MapAt R p s root lone) (k D E : Int) (hk : k < 0 ∨ 10 < k) (M : List Nat) (rt ln : Int) :
    Calls Tryz.prog 32 #[p, .agg #[.int .i64 k, .int .i64 D, .int .i64 E]] w (ActPost R w 15 M rt ln) := by
  have he1 : Ev R w R (w.alloc (.cells #[.int .i64 k, .int .i64 D, .int .i64 E] 50)) := (Ev.refl hI).alloc _
  have HE := Lib.hid he1
  have HBy := Lib.hid (by_out (w.alloc (.cells #[.int .i64 k, .int .i64 D, .int .i64 E] 50)) k hk)
  have hen := eql_nilf
  obtain ⟨b0, rfl, hb0⟩ := hp
  clear hI hb0 hk he1
  go_enter Tryz.func32, Tryz.ntmps32
  go_wp2_with fail
  refine HBy.out.mono ?_
  rintro e w' ⟨rfl, rfl⟩
  go_wp2_with fail
  go_ret2
  exact ⟨_, R, rfl, HE.out, fun _ => rfl, fun h => by omega⟩
set_option maxRecDepth 100000 in
theorem sdo_neg8 (R : Reg) (w : World) (hI : Inv R w) (p : Value) (s : List Nat) (root lone : Int) (hp : MapAt R p s root lone) (D E : Int) (hd : D < 0) (M : List Nat) (rt ln : Int) :
    Calls Tryz.prog 32 #[p, .agg #[.int .i64 8, .int .i64 D, .int .i64 E]] w (ActPost R w 1 M rt ln) := by
  have he1 : Ev R w R (w.alloc (.cells #[.int .i64 8, .int .i64 D, .int .i64 E] 50)) := (Ev.refl hI).alloc _
  have he2 := he1.trans ((Ev.refl he1.inv).alloc (.cells #[.func (.func 22) #[] #[]] 32))
  have he3 := he2.trans ((Ev.refl he2.inv).alloc (.cells #[.int .i64 8, .int .i64 D, .int .i64 E] 50))
  have HE := Lib.hid he3
  have HF := Lib.hid (edge_no ((w.alloc (.cells #[.int .i64 8, .int .i64 D, .int .i64 E] 50)).alloc (.cells #[.func (.func 22) #[] #[]] 32)) p (w.heap.size + 1) 8 D E hd)
  have HBy := Lib.hid (by_8 (w.alloc (.cells #[.int .i64 8, .int .i64 D, .int .i64 E] 50)))
  have hen := @eql_func
  obtain ⟨b0, rfl, hb0⟩ := hp
  clear hI hb0 he1 he2 he3 hd
  go_enter Tryz.func32, Tryz.ntmps32
  go_wp2_with fail
  refine HBy.out.mono ?_
  rintro e w' ⟨rfl, rfl⟩
  try rw [World.size_alloc]
  go_wp2_with fail
  refine HF.out.mono ?_
  rintro e w' ⟨rfl, rfl⟩
  go_wp2_with fail
  go_ret2
  exact ⟨_, R, rfl, HE.out, fun _ => rfl, fun h => by omega⟩
set_option maxRecDepth 100000 in
theorem sdo_neg9 (R : Reg) (w : World) (hI : Inv R w) (p : Value) (s : List Nat) (root lone : Int) (hp : MapAt R p s root lone) (D E : Int) (hd : D < 0) (M : List Nat) (rt ln : Int) :
    Calls Tryz.prog 32 #[p, .agg #[.int .i64 9, .int .i64 D, .int .i64 E]] w (ActPost R w 1 M rt ln) := by
  have he1 : Ev R w R (w.alloc (.cells #[.int .i64 9, .int .i64 D, .int .i64 E] 50)) := (Ev.refl hI).alloc _
  have he2 := he1.trans ((Ev.refl he1.inv).alloc (.cells #[.func (.func 20) #[] #[]] 32))
  have he3 := he2.trans ((Ev.refl he2.inv).alloc (.cells #[.int .i64 9, .int .i64 D, .int .i64 E] 50))
  have HE := Lib.hid he3
  have HF := Lib.hid (edge_no ((w.alloc (.cells #[.int .i64 9, .int .i64 D, .int .i64 E] 50)).alloc (.cells #[.func (.func 20) #[] #[]] 32)) p (w.heap.size + 1) 9 D E hd)
  have HBy := Lib.hid (by_9 (w.alloc (.cells #[.int .i64 9, .int .i64 D, .int .i64 E] 50)))
  have hen := @eql_func
  obtain ⟨b0, rfl, hb0⟩ := hp
  clear hI hb0 he1 he2 he3 hd
  go_enter Tryz.func32, Tryz.ntmps32
  go_wp2_with fail
  refine HBy.out.mono ?_
  rintro e w' ⟨rfl, rfl⟩
  try rw [World.size_alloc]
  go_wp2_with fail
  refine HF.out.mono ?_
  rintro e w' ⟨rfl, rfl⟩
  go_wp2_with fail
  go_ret2
  exact ⟨_, R, rfl, HE.out, fun _ => rfl, fun h => by omega⟩

/-- any act at a map -/
theorem sdo_any (R : Reg) (w : World) (hI : Inv R w) (p : Value) (s : List Nat) (root : Int) (lone : Nat) (hp : MapAt R p s root lone) (k D E : Int) (hD : D < 9223372036854775808) (hl : lone ≤ 60000) :
    Calls Tryz.prog 32 #[p, .agg #[.int .i64 k, .int .i64 D, .int .i64 E]] w (ActPost R w (actC s root lone k D E) (actM s root k D E) (actRt s root k D) (actLn s lone k D)) := by
  by_cases hk : k < 0 ∨ 10 < k
  · have e : actC s root lone k D E = 15 := by unfold actC; rw [if_pos hk]
    rw [e]
    exact sdo_out R w hI p s root lone hp k D E hk _ _ _
  · obtain ⟨n, hn, rfl⟩ : ∃ n : Nat, n ≤ 10 ∧ k = (n : Int) := ⟨k.toNat, by omega, by omega⟩
    have e : ∀ c : Int, (if (n : Int) < 0 ∨ 10 < (n : Int) then 15 else c) = c := fun c => if_neg hk
    unfold actC
    rw [e]
    clear hk e
    match n, hn with
    | 0, _ => exact sdo_0 R w hI p s root lone hp D E
    | 1, _ => exact sdo_1 R w hI p s root lone hp D E
    | 2, _ => exact sdo_2 R w hI p s root lone hp D E
    | 3, _ => exact sdo_3 R w hI p s root lone hp D E
    | 4, _ => exact sdo_4 R w hI p s root lone hp D E
    | 5, _ => exact sdo_5 R w hI p s root lone hp D E
    | 6, _ => exact sdo_6 R w hI p s root lone hp D E
    | 7, _ => exact sdo_7 R w hI p s root lone hp D E
    | 8, _ =>
      by_cases hd : D < 0
      · show Calls _ _ _ _ (ActPost R w (if D < 0 then 1 else _) _ _ _)
        rw [if_pos hd]
        exact sdo_neg8 R w hI p s root lone hp D E hd _ _ _
      · obtain ⟨d, rfl⟩ : ∃ d : Nat, D = (d : Int) := ⟨D.toNat, by omega⟩
        show Calls _ _ _ _ (ActPost R w (if (d : Int) < 0 then 1 else _) _ _ _)
        rw [if_neg hd]
        exact sdo_8 R w hI p s root lone hp E d (by omega) hl
    | 9, _ =>
      by_cases hd : D < 0
      · show Calls _ _ _ _ (ActPost R w (if D < 0 then 1 else _) _ _ _)
        rw [if_pos hd]
        exact sdo_neg9 R w hI p s root lone hp D E hd _ _ _
      · obtain ⟨d, rfl⟩ : ∃ d : Nat, D = (d : Int) := ⟨D.toNat, by omega⟩
        show Calls _ _ _ _ (ActPost R w (if (d : Int) < 0 then 1 else _) _ _ _)
        rw [if_neg hd]
        exact sdo_9 R w hI p s root lone hp E d (by omega) hl
    | 10, _ => exact sdo_10 R w hI p s root lone hp D E
end Go.Proofs.YtklkgicjfnbndaaGreat

namespace Go.Proofs.YtklkgicjfnbndaaGreat
open Go.RowKit
set_option linter.unusedVariables false

def listsL (s : List Nat) : Nat → List (List Nat)
  | 0 => []
  | i + 1 => if nth (namesL s) i = ((listsL s i).length : Int) then listsL s i ++ [orbitL s i] else listsL s i
end Go.Proofs.YtklkgicjfnbndaaGreat
