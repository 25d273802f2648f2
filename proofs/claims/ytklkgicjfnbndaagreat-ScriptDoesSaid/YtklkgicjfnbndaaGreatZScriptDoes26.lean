/- parquetryref10.Dual, Mirror; parquetrylaw10.like, where it is so. -/
import Derived.Test.YtklkgicjfnbndaaGreatZScriptDoes25
import Derived.Deep.RegionHeld3
import Derived.Test.YtklkgicjfnbndaaGreatZScriptDoes24
namespace Go.Proofs.YtklkgicjfnbndaaGreat
section
open Go.RowKit
set_option linter.unusedVariables false
theorem Ev.box3 {R R':Reg} {w0 w':World} {b:Nat} {x y z:Value} {T:TypeId} (hb:w0.heap[b]?=some (.cells #[x,y,z] T (0,0))) (hn:R b=none) (h:Ev R w0 R' w'):
  w'.heap[b]?=some (.cells #[x,y,z] T (0,0))∧R' b=none:=⟨(h.block b (lt_of_block hb) hn).trans hb,h.free b (lt_of_block hb) hn⟩
theorem box_cells {w:World} {b:Nat} {x y z:Value} {T:TypeId} (hb:w.heap[b]?=some (.cells #[x,y,z] T (0,0))):w.cell? ⟨b,0,none⟩=some x∧w.cell? ⟨b,1,none⟩=some y∧w.cell? ⟨b,2,none⟩=some z∧∀ o,w.frozen? ⟨b,o,none⟩=false:=
 ⟨cells_at hb 0,cells_at hb 1,cells_at hb 2,fun o=>by simp[World.frozen?,hb]⟩
theorem build_map (a:Option Addr) (n c:Nat) (r l:Int) (W:World):(Instr.build 27 #[(0,.slice a n c),(1,.int .i64 r),(2,.int .i64 l)]).run Tryz.prog W=.ok (.agg #[.slice a n c,.int .i64 r,.int .i64 l]) W:=by
 first|kernel_rfl|rfl|(go_simp;done)|(simp[go_sem];done)
set_option maxRecDepth 100000 in
set_option maxHeartbeats 2000000 in
theorem r10dual_any (R:Reg) (w:World) (hI:Inv R w) (v:Value) (s:List Nat) (root lone:Int) (hv:FreeI R w v (toI s)) (hS:IsPerm s) (hn:s.length≤1000000) (he:s.length % 2=0):
  Calls Tryz.prog 76 #[refV v root lone] w (RetMap R w (phiL s) root lone):=by
 obtain⟨a0,cap0,rfl,_⟩:=hv.open
 rw[toI_length] at hv ⊢
 have HC:=Lib.hid (fun R' w' (hee:Ev R w R' w')=>rphi_any R' w' hee.inv _ s root lone (hv.ev hee) (by omega) he)
 have hll:(phiL s).length=s.length:=phiL_length s
 obtain⟨L,hL⟩:∃ L,phiL s=L:=⟨_,rfl⟩
 rw[hL] at HC hll ⊢
 have HLl:=Lib.hid hll
 try unfold refV at HC
 unfold refV
 obtain⟨A,hA⟩:∃ A:Value,A=.slice a0 s.length cap0:=⟨_,rfl⟩
 rw[toI_length] at *
 have he1:Ev R w R (w.alloc (.cells #[.slice a0 s.length cap0,.int .i64 root,.int .i64 lone] 27)):=(Ev.refl hI).alloc _
 have he2:=he1.alloc (.cells #[.slice none 0 0,.int .i64 0,.int .i64 0] 27)
 have hb1:((w.alloc (.cells #[.slice a0 s.length cap0,.int .i64 root,.int .i64 lone] 27)).alloc (.cells #[.slice none 0 0,.int .i64 0,.int .i64 0] 27)).heap[w.heap.size]?=some (.cells #[.slice a0 s.length cap0,.int .i64 root,.int .i64 lone] 27 (0,0)):=by
  rw[Below.heap_alloc _ _ _ (by simp)]
  exact heap_alloc_new w _
 have hb2:((w.alloc (.cells #[.slice a0 s.length cap0,.int .i64 root,.int .i64 lone] 27)).alloc (.cells #[.slice none 0 0,.int .i64 0,.int .i64 0] 27)).heap[w.heap.size+1]?=some (.cells #[.slice none 0 0,.int .i64 0,.int .i64 0] 27 (0,0)):=by
  have:=heap_alloc_new (w.alloc (.cells #[.slice a0 s.length cap0,.int .i64 root,.int .i64 lone] 27)) (.cells #[.slice none 0 0,.int .i64 0,.int .i64 0] 27)
  simpa using this
 have hn1:R w.heap.size=none:=hI.none_of_ge (Nat.le_refl _)
 have hn2:R (w.heap.size+1)=none:=hI.none_of_ge (by omega)
 have HI:=Lib.hid hI
 clear hI hv hS hn he he1 hA hL hll
 go_enter Tryz.func76,Tryz.ntmps76
 go_upto_region 1 with fail
 obtain⟨w2,hw2⟩:∃ w2,w2=(w.alloc (.cells #[.slice a0 s.length cap0,.int .i64 root,.int .i64 lone] 27)).alloc (.cells #[.slice none 0 0,.int .i64 0,.int .i64 0] 27):=⟨_,rfl⟩
 rw[←hw2] at he2 hb1 hb2 ⊢
 have HB1:=Lib.hid (fun R' w' (h:Ev R w2 R' w')=>h.box3 hb1 hn1)
 have HB2:=Lib.hid (fun R' w' (h:Ev R w2 R' w')=>h.box3 hb2 hn2)
 have HE2:=Lib.hid he2
 have HEd:=Lib.hid ((Ev.refl he2.inv).drew)
 have hbd:=build_map
 obtain⟨x0,x1,x2,_⟩:=box_cells (HB1.out _ _ HEd.out).1
 clear hw2 he2 hb1 hb2 hn1 hn2
 go_region_with (first
  |(go_at_call 115;refine (HC.out _ _ (HE2.out.trans HEd.out)).mono ?_;rintro z w3 ⟨v3,rfl,he3,ho3⟩;obtain⟨a3,c3,rfl,_⟩:=ho3.ints.open;(try simp only[toI_length] at ho3 ⊢);have HO3:=Lib.hid ho3;have HEd:=Lib.hid (HEd.out.trans he3);clear he3 ho3;obtain⟨x0,x1,x2,_⟩:=box_cells (HB1.out _ _ HEd.out).1;obtain⟨y0,y1,y2,yz⟩:=box_cells (HB2.out _ _ HEd.out).1))
 all_goals (go_wp2_with fail)
 all_goals (
  have hb3:=set3 (x:=.slice a3 L.length c3) (y:=.int .i64 root) (z:=.int .i64 lone) (HB2.out _ _ HEd.out).1
  obtain⟨u0,u1,u2,_⟩:=box_cells hb3
  have hn2:=(HB2.out _ _ HEd.out).2
  refine bodyPost_ret (v:=refV (.slice a3 L.length c3) root lone) ?_ rfl ⟨a3,c3,rfl,?_,?_⟩
  ·simp[results,Tryz.results76,go_sem,u0,u1,u2,refV]
  ·exact (((HE2.out.trans HEd.out).setCell (by simp) hn2 _).setCell (by simp) hn2 _).setCell (by simp) hn2 _
  ·have hne:∀ (o:Nat),(Value.slice a3 L.length c3).ownBlock≠some (⟨w.heap.size+1,o,none⟩:Addr).block:=fun o e=>by
    have h1:=(HO3.out.lt _ e).1
    have h2:=lt_of_block (HB2.out _ _ (Ev.refl HE2.out.inv)).1
    simp at h1 h2
    omega
   exact (((HO3.out.mono (by have:=HE2.out.size;simpa using this)).setCell (hne 0) _).setCell (hne 1) _).setCell (hne 2) _)
set_option maxRecDepth 100000 in
set_option maxHeartbeats 2000000 in
theorem r10mirror_any (R:Reg) (w:World) (hI:Inv R w) (v:Value) (s:List Nat) (root lone:Int) (hv:FreeI R w v (toI s)) (hS:IsPerm s) (hn:s.length≤1000000) (he:s.length % 2=0):
  Calls Tryz.prog 77 #[refV v root lone] w (RetMap R w (invL s) root lone):=by
 obtain⟨a0,cap0,rfl,_⟩:=hv.open
 rw[toI_length] at hv ⊢
 have HC:=Lib.hid (fun R' w' (hee:Ev R w R' w')=>rinverse_any R' w' hee.inv _ s (hv.ev hee) hS (by omega))
 have hll:(invL s).length=s.length:=invL_length s
 obtain⟨L,hL⟩:∃ L,invL s=L:=⟨_,rfl⟩
 rw[hL] at HC hll ⊢
 have HLl:=Lib.hid hll
 try unfold refV at HC
 unfold refV
 obtain⟨A,hA⟩:∃ A:Value,A=.slice a0 s.length cap0:=⟨_,rfl⟩
 rw[toI_length] at *
 have he1:Ev R w R (w.alloc (.cells #[.slice a0 s.length cap0,.int .i64 root,.int .i64 lone] 27)):=(Ev.refl hI).alloc _
 have he2:=he1.alloc (.cells #[.slice none 0 0,.int .i64 0,.int .i64 0] 27)
 have hb1:((w.alloc (.cells #[.slice a0 s.length cap0,.int .i64 root,.int .i64 lone] 27)).alloc (.cells #[.slice none 0 0,.int .i64 0,.int .i64 0] 27)).heap[w.heap.size]?=some (.cells #[.slice a0 s.length cap0,.int .i64 root,.int .i64 lone] 27 (0,0)):=by
  rw[Below.heap_alloc _ _ _ (by simp)]
  exact heap_alloc_new w _
 have hb2:((w.alloc (.cells #[.slice a0 s.length cap0,.int .i64 root,.int .i64 lone] 27)).alloc (.cells #[.slice none 0 0,.int .i64 0,.int .i64 0] 27)).heap[w.heap.size+1]?=some (.cells #[.slice none 0 0,.int .i64 0,.int .i64 0] 27 (0,0)):=by
  have:=heap_alloc_new (w.alloc (.cells #[.slice a0 s.length cap0,.int .i64 root,.int .i64 lone] 27)) (.cells #[.slice none 0 0,.int .i64 0,.int .i64 0] 27)
  simpa using this
 have hn1:R w.heap.size=none:=hI.none_of_ge (Nat.le_refl _)
 have hn2:R (w.heap.size+1)=none:=hI.none_of_ge (by omega)
 have HI:=Lib.hid hI
 clear hI hv hS hn he he1 hA hL hll
 go_enter Tryz.func77,Tryz.ntmps77
 go_upto_region 1 with fail
 obtain⟨w2,hw2⟩:∃ w2,w2=(w.alloc (.cells #[.slice a0 s.length cap0,.int .i64 root,.int .i64 lone] 27)).alloc (.cells #[.slice none 0 0,.int .i64 0,.int .i64 0] 27):=⟨_,rfl⟩
 rw[←hw2] at he2 hb1 hb2 ⊢
 have HB1:=Lib.hid (fun R' w' (h:Ev R w2 R' w')=>h.box3 hb1 hn1)
 have HB2:=Lib.hid (fun R' w' (h:Ev R w2 R' w')=>h.box3 hb2 hn2)
 have HE2:=Lib.hid he2
 have HEd:=Lib.hid ((Ev.refl he2.inv).drew)
 have hbd:=build_map
 obtain⟨x0,x1,x2,_⟩:=box_cells (HB1.out _ _ HEd.out).1
 clear hw2 he2 hb1 hb2 hn1 hn2
 go_region_with (first
  |(go_at_call 116;refine (HC.out _ _ (HE2.out.trans HEd.out)).mono ?_;rintro z w3 ⟨v3,rfl,he3,ho3⟩;obtain⟨a3,c3,rfl,_⟩:=ho3.ints.open;(try simp only[toI_length] at ho3 ⊢);have HO3:=Lib.hid ho3;have HEd:=Lib.hid (HEd.out.trans he3);clear he3 ho3;obtain⟨x0,x1,x2,_⟩:=box_cells (HB1.out _ _ HEd.out).1;obtain⟨y0,y1,y2,yz⟩:=box_cells (HB2.out _ _ HEd.out).1))
 all_goals (go_wp2_with fail)
 all_goals (
  have hb3:=set3 (x:=.slice a3 L.length c3) (y:=.int .i64 root) (z:=.int .i64 lone) (HB2.out _ _ HEd.out).1
  obtain⟨u0,u1,u2,_⟩:=box_cells hb3
  have hn2:=(HB2.out _ _ HEd.out).2
  refine bodyPost_ret (v:=refV (.slice a3 L.length c3) root lone) ?_ rfl ⟨a3,c3,rfl,?_,?_⟩
  ·simp[results,Tryz.results77,go_sem,u0,u1,u2,refV]
  ·exact (((HE2.out.trans HEd.out).setCell (by simp) hn2 _).setCell (by simp) hn2 _).setCell (by simp) hn2 _
  ·have hne:∀ (o:Nat),(Value.slice a3 L.length c3).ownBlock≠some (⟨w.heap.size+1,o,none⟩:Addr).block:=fun o e=>by
    have h1:=(HO3.out.lt _ e).1
    have h2:=lt_of_block (HB2.out _ _ (Ev.refl HE2.out.inv)).1
    simp at h1 h2
    omega
   exact (((HO3.out.mono (by have:=HE2.out.size;simpa using this)).setCell (hne 0) _).setCell (hne 1) _).setCell (hne 2) _)
end
section
set_option linter.unusedVariables false
theorem eq_at {s t:List Nat} (h:s.length=t.length) (hk:∀ j,j<s.length→at' s j=at' t j):s=t:=by
 refine List.ext_getElem h fun i h1 h2=>?_
 have:=hk i h1
 simpa [at',h1,h2] using this
section
variable {s : List Nat} (hs : IsPerm s) (he : s.length % 2 = 0)
include hs he
end
end
section
set_option linter.unusedVariables false
theorem exI_else {e i:Nat} (h:¬ i / 2=e):exI e i=i:=by
 unfold exI;split <;> (try split) <;> omega
end
section
set_option linter.unusedVariables false
inductive Way (s:List Nat) (Q:Nat→Prop):Nat→Nat→Prop
 | one {d:Nat}:¬ Q (at' s d)→Way s Q d (at' s d)
 | more {d y:Nat}:Q (at' s d)→Way s Q (at' s d) y→Way s Q d y
theorem Way.same {s:List Nat} {Q:Nat→Prop} {d y z:Nat} (h:Way s Q d y):Way s Q d z→y=z:=by
 induction h with
 | one h=>intro k;cases k with
  | one _=>rfl
  | more k _=>exact absurd k h
 | more h _ ih=>intro k;cases k with
  | one k=>exact absurd h k
  | more _ k=>exact ih k
section
variable {s : List Nat} (hs : IsPerm s)
include hs
theorem pass_way {e d:Nat} (hd:d<s.length) (ho:¬ d / 2=e):Way s (fun x=>x / 2=e) d (passN s e (at' s d)):=by
 have hp:=(pass_ok hs hd ho).1
 rcases pass_cases s e (at' s d) with ⟨a,b⟩|⟨a,a2,b⟩|⟨a,a2,b⟩
 ·rw[b];exact .one a
 ·rw[b];exact .more a (.one a2)
 ·rw[b] at hp ⊢;exact .more a (.more a2 (.one hp))
end
end
section
set_option linter.unusedVariables false
theorem it_itf (s:List Nat):∀ (j x:Nat),it s j x=itf (at' s) j x
 | 0,_=>rfl
 | j+1,x=>it_itf s j (at' s x)
theorem sizesL_tally {s:List Nat} (hs:IsPerm s):(sizesL s).length=tally (Least (cyc s.length (at' s))) s.length:=by
 have h1:=sizesGo_length hs s.length (Nat.le_refl _)
 have h2:=(namesL_ord hs).cnt_eq (Nat.le_refl s.length)
 have e:sizesGo s s.length=sizesL s:=by unfold sizesGo sizesL;rw[List.take_of_length_le (by rw[namesL_length];exact Nat.le_refl _)]
 rw[←e,h1]
 exact h2
section
variable {p n : Nat} {r q : Nat → Nat → Prop} {P : Nat → Prop} (hr : Per p r) (hq : Per n q) (f : Nat → Nat)
 (hf:∀ x,x<p→f x<n∧P (f x)) (hb:∀ y,y<n→P y→∃ x,x<p∧q (f x) y) (hP:∀ x y,P x→q x y→P y) (hrq:∀ x y,x<p→y<p→(r x y↔q (f x) (f y)))
include hr hq hf hb hP hrq
end
theorem itf_plus (f:Nat→Nat):∀ (a b x:Nat),itf f (a+b) x=itf f b (itf f a x)
 | 0,b,x=>by rw[Nat.zero_add];rfl
 | a+1,b,x=>by rw[show a+1+b=(a+b)+1 by omega];exact itf_plus f a b (f x)
section
variable {s : List Nat} (hs : IsPerm s) {e : Nat} (hn : 2 * e + 2 ≤ s.length)
include hs hn
end
end
section
set_option linter.unusedVariables false
theorem exL_swp {s:List Nat} {e x:Nat} (hx:x<s.length):at' (exL s e) x=swp (at' s) (2*e) (2*e+1) x:=by
 rw[exL_at hx]
 unfold exI swp
 by_cases h1:x=2*e
 ·subst h1;rw[if_neg (by omega),if_pos rfl,if_pos rfl]
 ·by_cases h2:x=2*e+1
  ·subst h2;rw[if_pos rfl,if_neg h1,if_pos rfl]
  ·rw[if_neg h2,if_neg h1,if_neg h1,if_neg h2]
section
variable {s : List Nat} (hs : IsPerm s) {e : Nat} (hn : 2 * e + 2 ≤ s.length) (hne : nth (namesL s) (2 * e) ≠ nth (namesL s) (2 * e + 1))
include hs hn hne
theorem ex_not:¬ cyc s.length (at' s) (2*e) (2*e+1):=fun h=>hne (((namesL_ord hs).rel _ _ (by omega) (by omega)).2 h)
theorem ex_cyc {x y:Nat} (hx:x<s.length) (hy:y<s.length):cyc s.length (at' (exL s e)) x y↔mrg (cyc s.length (at' s)) (2*e) (2*e+1) x y:=by
 rw[←hs.pm.swp_mrg (by omega) (by omega) (by omega) (ex_not hs hn hne)]
 have h1:Pm s.length (at' (exL s e)):=by have:=(exL_perm hs hn).pm;rwa [exL_length] at this
 have h2:Pm s.length (swp (at' s) (2*e) (2*e+1)):=hs.pm.swap (by omega) (by omega) (by omega)
 constructor
 ·exact h1.cyc_sub h2.per fun z hz=>by rw[exL_swp hz];exact h2.step hz
 ·exact h2.cyc_sub h1.per fun z hz=>by rw[←exL_swp hz];exact h1.step hz
end
end
section
set_option linter.unusedVariables false
def relL (s t:List Nat):List Nat:=(List.range s.length).map fun j=>at' t (at' s (at' (invL t) j))
theorem relL_length (s t:List Nat):(relL s t).length=s.length:=by simp[relL]
theorem relL_at {s t:List Nat} {j:Nat} (h:j<s.length):at' (relL s t) j=at' t (at' s (at' (invL t) j)):=by simp[relL,at',h]
def Mates (t:List Nat):Prop:=∀ d,d<t.length→at' t (d ^^^ 1)=at' t d ^^^ 1
section
variable {s t : List Nat} (hs : IsPerm s) (ht : IsPerm t) (hl : t.length = s.length)
include hs ht hl
theorem relL_perm:IsPerm (relL s t):=by
 refine IsPerm.of_inj (fun i hi=>?_) (fun i j hi hj e=>?_)
 ·rw[relL_length] at hi ⊢
  rw[relL_at hi,←hl]
  exact ht.lt (by rw[hl];exact hs.lt (by rw[←hl];exact (at_invL ht (by rw[hl];exact hi)).2))
 ·rw[relL_length] at hi hj
  have h1:=(at_invL ht (y:=i) (by rw[hl];exact hi))
  have h2:=(at_invL ht (y:=j) (by rw[hl];exact hj))
  rw[relL_at hi,relL_at hj] at e
  have e1:=ht.inj (by rw[hl];exact hs.lt (by rw[←hl];exact h1.2)) (by rw[hl];exact hs.lt (by rw[←hl];exact h2.2)) e
  have e2:=hs.inj (by rw[←hl];exact h1.2) (by rw[←hl];exact h2.2) e1
  rw[←h1.1,←h2.1,e2]
end
def relGo (s t:List Nat) (i:Nat):List Int:=(List.range s.length).map fun j=>if at' (invL t) j<i then ((at' t (at' s (at' (invL t) j)):Nat):Int) else 0
theorem relGo_length (s t:List Nat) (i:Nat):(relGo s t i).length=s.length:=by simp[relGo]
theorem relGo_zero (s t:List Nat):relGo s t 0=List.replicate s.length 0:=by
 refine List.ext_getElem (by simp[relGo]) fun i h1 h2=>?_
 simp[relGo]
theorem relGo_set {s t:List Nat} (ht:IsPerm t) (hl:t.length=s.length) {i:Nat} (hi:i<s.length):(relGo s t i).set (at' t i) ((at' t (at' s i):Nat):Int)=relGo s t (i+1):=by
 refine List.ext_getElem (by simp[relGo]) fun j h1 h2=>?_
 have hj:j<s.length:=by simp[relGo] at h2;exact h2
 rw[List.getElem_set]
 have hit:i<t.length:=by rw[hl];exact hi
 have h:=at_invL ht (y:=j) (by rw[hl];exact hj)
 by_cases e1:at' t i=j
 ·subst e1
  rw[if_pos rfl]
  simp only[relGo,List.getElem_map,List.getElem_range,invL_at ht hit]
  rw[if_pos (by omega)]
 ·rw[if_neg e1]
  simp only[relGo,List.getElem_map,List.getElem_range]
  by_cases h3:at' (invL t) j<i
  ·rw[if_pos h3,if_pos (by omega)]
  ·have:at' (invL t) j≠i:=fun e'=>e1 (by rw[←e',h.1])
   rw[if_neg h3,if_neg (by omega)]
theorem relGo_all {s t:List Nat} (ht:IsPerm t) (hl:t.length=s.length):relGo s t s.length=toI (relL s t):=by
 unfold relGo relL toI
 rw[List.map_map]
 refine List.map_congr_left fun j hj=>?_
 rw[if_pos (by rw[←hl];exact (at_invL ht (by rw[hl];exact List.mem_range.1 hj)).2)]
 rfl
theorem relRoot {s t:List Nat} {root lone:Int} (h:MapOk s root lone) (ht:IsPerm t) (hl:t.length=s.length):MapOk (relL s t) (atI t root) lone:=by
 obtain⟨h1,h2,h3,h4,h5⟩:=h
 have hrl:=relL_length s t
 refine⟨by rw[hrl];exact h1,by rw[hrl];exact h2,h3,h4,?_⟩
 rcases h5 with ⟨h5,rfl⟩|⟨h5,h6⟩
 ·left;exact⟨by rw[hrl];exact h5,atI_out (Or.inl (by omega))⟩
 ·right
  obtain⟨k,rfl⟩:=Int.eq_ofNat_of_zero_le h5
  have hk:k<t.length:=by omega
  rw[atI_in hk,hrl]
  have:=ht.lt hk
  omega
end
section
set_option linter.unusedVariables false
section
variable {p n : Nat} {r q : Nat → Nat → Prop} {P' P : Nat → Prop} (hr : Per p r) (hq : Per n q) (f : Nat → Nat)
 (hf:∀ x,x<p→P' x→f x<n∧P (f x)) (hb:∀ y,y<n→P y→∃ x,x<p∧P' x∧q (f x) y) (hP:∀ x y,P x→q x y→P y) (hP':∀ x y,P' x→r x y→P' y) (hfl:∀ x,x<p→f x<n) (hrq:∀ x y,x<p→y<p→(r x y↔q (f x) (f y)))
include hr hq hf hb hP hP' hfl hrq
end
section
variable {s t : List Nat} (hs : IsPerm s) (ht : IsPerm t) (hl : t.length = s.length)
include hs ht hl
end
section
variable {s t : List Nat} (hs : IsPerm s) (he : s.length % 2 = 0) (ht : IsPerm t) (hl : t.length = s.length) (hm : Mates t)
include hs he ht hl hm
end
end
end Go.Proofs.YtklkgicjfnbndaaGreat
