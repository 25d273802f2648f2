/- parquetryref10.Dual, Mirror; parquetrylaw10.like, where it is so. -/
import Derived.Test.YtklkgicjfnbndaaGreatZScriptPlays24
import Derived.Deep.RegionHeld3
import Derived.Test.YtklkgicjfnbndaaGreatZScriptPlays23
namespace Go.Proofs.YtklkgicjfnbndaaGreat
section
open Go.RowKit
set_option linter.unusedVariables false
theorem Ev.box3 {R R':Reg} {w0 w':World} {b:Nat} {x y z:Value} {T:TypeId} (hb:w0.heap[b]?=some (.cells #[x,y,z] T (0,0))) (hn:R b=none) (h:Ev R w0 R' w'):
  w'.heap[b]?=some (.cells #[x,y,z] T (0,0))∧R' b=none:=⟨(h.block b (lt_of_block hb) hn).trans hb,h.free b (lt_of_block hb) hn⟩
theorem box_cells {w:World} {b:Nat} {x y z:Value} {T:TypeId} (hb:w.heap[b]?=some (.cells #[x,y,z] T (0,0))):w.cell? ⟨b,0,none⟩=some x∧w.cell? ⟨b,1,none⟩=some y∧w.cell? ⟨b,2,none⟩=some z∧∀ o,w.frozen? ⟨b,o,none⟩=false:=
 ⟨cells_at hb 0,cells_at hb 1,cells_at hb 2,fun o=>by simp[World.frozen?,hb]⟩
theorem build_map (a:Option Addr) (n c:Nat) (r l:Int) (W:World):(Instr.build 27 #[(0,.slice a n c),(1,.int .i64 r),(2,.int .i64 l)]).run Tryz.prog W=.ok (.agg #[.slice a n c,.int .i64 r,.int .i64 l]) W:=by
 first|kernel_rfl|rfl|(go_simp;done)|(simp[go_sem];done)
set_option maxRecDepth 100000 in
set_option maxHeartbeats 2000000 in
theorem r10dual_any (R:Reg) (w:World) (hI:Inv R w) (v:Value) (s:List Nat) (root lone:Int) (hv:FreeI R w v (toI s)) (hS:IsPerm s) (hn:s.length≤1000000) (he:s.length % 2=0):
  Calls Tryz.prog 76 #[refV v root lone] w (RetMap R w (phiL s) root lone):=by
 obtain⟨a0,cap0,rfl,_⟩:=hv.open
 rw[toI_length] at hv ⊢
 have HC:=Lib.hid (fun R' w' (hee:Ev R w R' w')=>rphi_any R' w' hee.inv _ s root lone (hv.ev hee) (by omega) he)
 have hll:(phiL s).length=s.length:=phiL_length s
 obtain⟨L,hL⟩:∃ L,phiL s=L:=⟨_,rfl⟩
 rw[hL] at HC hll ⊢
 have HLl:=Lib.hid hll
 try unfold refV at HC
 unfold refV
 obtain⟨A,hA⟩:∃ A:Value,A=.slice a0 s.length cap0:=⟨_,rfl⟩
 rw[toI_length] at *
 have he1:Ev R w R (w.alloc (.cells #[.slice a0 s.length cap0,.int .i64 root,.int .i64 lone] 27)):=(Ev.refl hI).alloc _
 have he2:=he1.alloc (.cells #[.slice none 0 0,.int .i64 0,.int .i64 0] 27)
 have hb1:((w.alloc (.cells #[.slice a0 s.length cap0,.int .i64 root,.int .i64 lone] 27)).alloc (.cells #[.slice none 0 0,.int .i64 0,.int .i64 0] 27)).heap[w.heap.size]?=some (.cells #[.slice a0 s.length cap0,.int .i64 root,.int .i64 lone] 27 (0,0)):=by
  rw[Below.heap_alloc _ _ _ (by simp)]
  exact heap_alloc_new w _
 have hb2:((w.alloc (.cells #[.slice a0 s.length cap0,.int .i64 root,.int .i64 lone] 27)).alloc (.cells #[.slice none 0 0,.int .i64 0,.int .i64 0] 27)).heap[w.heap.size+1]?=some (.cells #[.slice none 0 0,.int .i64 0,.int .i64 0] 27 (0,0)):=by
  have:=heap_alloc_new (w.alloc (.cells #[.slice a0 s.length cap0,.int .i64 root,.int .i64 lone] 27)) (.cells #[.slice none 0 0,.int .i64 0,.int .i64 0] 27)
  simpa using this
 have hn1:R w.heap.size=none:=hI.none_of_ge (Nat.le_refl _)
 have hn2:R (w.heap.size+1)=none:=hI.none_of_ge (by omega)
 have HI:=Lib.hid hI
 clear hI hv hS hn he he1 hA hL hll
 go_enter Tryz.func76,Tryz.ntmps76
 go_upto_region 1 with fail
 obtain⟨w2,hw2⟩:∃ w2,w2=(w.alloc (.cells #[.slice a0 s.length cap0,.int .i64 root,.int .i64 lone] 27)).alloc (.cells #[.slice none 0 0,.int .i64 0,.int .i64 0] 27):=⟨_,rfl⟩
 rw[←hw2] at he2 hb1 hb2 ⊢
 have HB1:=Lib.hid (fun R' w' (h:Ev R w2 R' w')=>h.box3 hb1 hn1)
 have HB2:=Lib.hid (fun R' w' (h:Ev R w2 R' w')=>h.box3 hb2 hn2)
 have HE2:=Lib.hid he2
 have HEd:=Lib.hid ((Ev.refl he2.inv).drew)
 have hbd:=build_map
 obtain⟨x0,x1,x2,_⟩:=box_cells (HB1.out _ _ HEd.out).1
 clear hw2 he2 hb1 hb2 hn1 hn2
 go_region_with (first
  |(go_at_call 115;refine (HC.out _ _ (HE2.out.trans HEd.out)).mono ?_;rintro z w3 ⟨v3,rfl,he3,ho3⟩;obtain⟨a3,c3,rfl,_⟩:=ho3.ints.open;(try simp only[toI_length] at ho3 ⊢);have HO3:=Lib.hid ho3;have HEd:=Lib.hid (HEd.out.trans he3);clear he3 ho3;obtain⟨x0,x1,x2,_⟩:=box_cells (HB1.out _ _ HEd.out).1;obtain⟨y0,y1,y2,yz⟩:=box_cells (HB2.out _ _ HEd.out).1))
 all_goals (go_wp2_with fail)
 all_goals (
  have hb3:=set3 (x:=.slice a3 L.length c3) (y:=.int .i64 root) (z:=.int .i64 lone) (HB2.out _ _ HEd.out).1
  obtain⟨u0,u1,u2,_⟩:=box_cells hb3
  have hn2:=(HB2.out _ _ HEd.out).2
  refine bodyPost_ret (v:=refV (.slice a3 L.length c3) root lone) ?_ rfl ⟨a3,c3,rfl,?_,?_⟩
  ·simp[results,Tryz.results76,go_sem,u0,u1,u2,refV]
  ·exact (((HE2.out.trans HEd.out).setCell (by simp) hn2 _).setCell (by simp) hn2 _).setCell (by simp) hn2 _
  ·have hne:∀ (o:Nat),(Value.slice a3 L.length c3).ownBlock≠some (⟨w.heap.size+1,o,none⟩:Addr).block:=fun o e=>by
    have h1:=(HO3.out.lt _ e).1
    have h2:=lt_of_block (HB2.out _ _ (Ev.refl HE2.out.inv)).1
    simp at h1 h2
    omega
   exact (((HO3.out.mono (by have:=HE2.out.size;simpa using this)).setCell (hne 0) _).setCell (hne 1) _).setCell (hne 2) _)
set_option maxRecDepth 100000 in
set_option maxHeartbeats 2000000 in
theorem r10mirror_any (R:Reg) (w:World) (hI:Inv R w) (v:Value) (s:List Nat) (root lone:Int) (hv:FreeI R w v (toI s)) (hS:IsPerm s) (hn:s.length≤1000000) (he:s.length % 2=0):
  Calls Tryz.prog 77 #[refV v root lone] w (RetMap R w (invL s) root lone):=by
 obtain⟨a0,cap0,rfl,_⟩:=hv.open
 rw[toI_length] at hv ⊢
 have HC:=Lib.hid (fun R' w' (hee:Ev R w R' w')=>rinverse_any R' w' hee.inv _ s (hv.ev hee) hS (by omega))
 have hll:(invL s).length=s.length:=invL_length s
 obtain⟨L,hL⟩:∃ L,invL s=L:=⟨_,rfl⟩
 rw[hL] at HC hll ⊢
 have HLl:=Lib.hid hll
 try unfold refV at HC
 unfold refV
 obtain⟨A,hA⟩:∃ A:Value,A=.slice a0 s.length cap0:=⟨_,rfl⟩
 rw[toI_length] at *
 have he1:Ev R w R (w.alloc (.cells #[.slice a0 s.length cap0,.int .i64 root,.int .i64 lone] 27)):=(Ev.refl hI).alloc _
 have he2:=he1.alloc (.cells #[.slice none 0 0,.int .i64 0,.int .i64 0] 27)
 have hb1:((w.alloc (.cells #[.slice a0 s.length cap0,.int .i64 root,.int .i64 lone] 27)).alloc (.cells #[.slice none 0 0,.int .i64 0,.int .i64 0] 27)).heap[w.heap.size]?=some (.cells #[.slice a0 s.length cap0,.int .i64 root,.int .i64 lone] 27 (0,0)):=by
  rw[Below.heap_alloc _ _ _ (by simp)]
  exact heap_alloc_new w _
 have hb2:((w.alloc (.cells #[.slice a0 s.length cap0,.int .i64 root,.int .i64 lone] 27)).alloc (.cells #[.slice none 0 0,.int .i64 0,.int .i64 0] 27)).heap[w.heap.size+1]?=some (.cells #[.slice none 0 0,.int .i64 0,.int .i64 0] 27 (0,0)):=by
  have:=heap_alloc_new (w.alloc (.cells #[.slice a0 s.length cap0,.int .i64 root,.int .i64 lone] 27)) (.cells #[.slice none 0 0,.int .i64 0,.int .i64 0] 27)
  simpa using this
 have hn1:R w.heap.size=none:=hI.none_of_ge (Nat.le_refl _)
 have hn2:R (w.heap.size+1)=none:=hI.none_of_ge (by omega)
 have HI:=Lib.hid hI
 clear hI hv hS hn he he1 hA hL hll
 go_enter Tryz.func77,Tryz.ntmps77
 go_upto_region 1 with fail
 obtain⟨w2,hw2⟩:∃ w2,w2=(w.alloc (.cells #[.slice a0 s.length cap0,.int .i64 root,.int .i64 lone] 27)).alloc (.cells #[.slice none 0 0,.int .i64 0,.int .i64 0] 27):=⟨_,rfl⟩
 rw[←hw2] at he2 hb1 hb2 ⊢
 have HB1:=Lib.hid (fun R' w' (h:Ev R w2 R' w')=>h.box3 hb1 hn1)
 have HB2:=Lib.hid (fun R' w' (h:Ev R w2 R' w')=>h.box3 hb2 hn2)
 have HE2:=Lib.hid he2
 have HEd:=Lib.hid ((Ev.refl he2.inv).drew)
 have hbd:=build_map
 obtain⟨x0,x1,x2,_⟩:=box_cells (HB1.out _ _ HEd.out).1
 clear hw2 he2 hb1 hb2 hn1 hn2
 go_region_with (first
  |(go_at_call 116;refine (HC.out _ _ (HE2.out.trans HEd.out)).mono ?_;rintro z w3 ⟨v3,rfl,he3,ho3⟩;obtain⟨a3,c3,rfl,_⟩:=ho3.ints.open;(try simp only[toI_length] at ho3 ⊢);have HO3:=Lib.hid ho3;have HEd:=Lib.hid (HEd.out.trans he3);clear he3 ho3;obtain⟨x0,x1,x2,_⟩:=box_cells (HB1.out _ _ HEd.out).1;obtain⟨y0,y1,y2,yz⟩:=box_cells (HB2.out _ _ HEd.out).1))
 all_goals (go_wp2_with fail)
 all_goals (
  have hb3:=set3 (x:=.slice a3 L.length c3) (y:=.int .i64 root) (z:=.int .i64 lone) (HB2.out _ _ HEd.out).1
  obtain⟨u0,u1,u2,_⟩:=box_cells hb3
  have hn2:=(HB2.out _ _ HEd.out).2
  refine bodyPost_ret (v:=refV (.slice a3 L.length c3) root lone) ?_ rfl ⟨a3,c3,rfl,?_,?_⟩
  ·simp[results,Tryz.results77,go_sem,u0,u1,u2,refV]
  ·exact (((HE2.out.trans HEd.out).setCell (by simp) hn2 _).setCell (by simp) hn2 _).setCell (by simp) hn2 _
  ·have hne:∀ (o:Nat),(Value.slice a3 L.length c3).ownBlock≠some (⟨w.heap.size+1,o,none⟩:Addr).block:=fun o e=>by
    have h1:=(HO3.out.lt _ e).1
    have h2:=lt_of_block (HB2.out _ _ (Ev.refl HE2.out.inv)).1
    simp at h1 h2
    omega
   exact (((HO3.out.mono (by have:=HE2.out.size;simpa using this)).setCell (hne 0) _).setCell (hne 1) _).setCell (hne 2) _)
end
section
set_option linter.unusedVariables false
theorem eq_at {s t:List Nat} (h:s.length=t.length) (hk:∀ j,j<s.length→at' s j=at' t j):s=t:=by
 refine List.ext_getElem h fun i h1 h2=>?_
 have:=hk i h1
 simpa [at',h1,h2] using this
section
variable {s : List Nat} (hs : IsPerm s) (he : s.length % 2 = 0)
include he in
theorem phi_phi:phiL (phiL s)=s:=by
 refine eq_at (by rw[phiL_length,phiL_length]) fun j hj=>?_
 rw[phiL_length,phiL_length] at hj
 rw[phiL_at (by rw[phiL_length];exact hj),phiL_at (xor_one_lt he hj),xor_one_one]
include hs he
theorem con_phi_sub {x y:Nat} (h:Con (phiL s) x y):Con s x y:=by
 refine Con.sub (phiL_perm hs he) (r:=Con s) (by rw[phiL_length];exact Con.per hs) (fun z hz=>?_) (fun z hz=>?_) h
 ·rw[phiL_length] at hz
  rw[phiL_at hz]
  exact (Con.per hs).trans (Con.mate hs he hz) (Con.step hs (xor_one_lt he hz))
 ·rw[phiL_length] at hz
  exact Con.mate hs he hz
theorem con_phi (x y:Nat) (hx:x<s.length) (hy:y<s.length):Con (phiL s) x y↔Con s x y:=by
 refine⟨con_phi_sub hs he,fun h=>?_⟩
 have:=con_phi_sub (phiL_perm hs he) (by rw[phiL_length];exact he) (x:=x) (y:=y)
 rw[phi_phi he] at this
 exact this h
theorem partsL_phi:partsL (phiL s)=partsL s:=by
 have h1:=partsL_ord (phiL_perm hs he) (by rw[phiL_length];exact he)
 rw[phiL_length] at h1
 exact (h1.congr (con_phi hs he)).unique (partsL_ord hs he)
theorem partsN_phi:partsN (phiL s)=partsN s:=by
 have h1:=partsL_ord (phiL_perm hs he) (by rw[phiL_length];exact he)
 rw[phiL_length] at h1
 have a:=(h1.congr (con_phi hs he)).cnt_eq (Nat.le_refl _)
 have b:=(partsL_ord hs he).cnt_eq (Nat.le_refl _)
 unfold partsN
 rw[phiL_length]
 exact a.trans b.symm
theorem genOf_phi (k:Nat):genOf (phiL s) (partsL (phiL s)) k=genOf s (partsL s) k:=by
 unfold genOf
 rw[partsL_phi hs he,phiL_length,phi_phi he]
 congr 1
 omega
theorem genusTo_phi:∀ k,genusTo (phiL s) k=genusTo s k
 | 0=>rfl
 | k+1=>by unfold genusTo;rw[genusTo_phi k,genOf_phi hs he]
theorem genusL_phi:genusL (phiL s)=genusL s:=by
 unfold genusL;rw[partsN_phi hs he,genusTo_phi hs he]
end
end
section
set_option linter.unusedVariables false
theorem unL_mate (e j:Nat):unL e (j ^^^ 1)=unL e j ^^^ 1:=by
 rw[xor_one j,xor_one (unL e j)]
 unfold unL
 repeat' split
 all_goals omega
theorem mate_own {d e:Nat}:(d ^^^ 1) / 2=e↔d / 2=e:=by
 have h:=xor_one d
 rw[h]
 split <;> omega
theorem exI_own {e i:Nat} (h:i / 2=e):exI e i=i ^^^ 1:=by
 rw[xor_one];unfold exI
 repeat' split
 all_goals omega
theorem exI_else {e i:Nat} (h:¬ i / 2=e):exI e i=i:=by
 unfold exI;split <;> (try split) <;> omega
theorem pass_same {t u:List Nat} {e:Nat} (h:∀ d,d / 2=e→at' t d=at' u d) (x:Nat):passN t e x=passN u e x:=by
 have key:∀ f x,passF t e f x=passF u e f x:=fun f=>by
  induction f with
  | zero=>intro x;rfl
  | succ f ih=>
   intro x
   unfold passF
   by_cases hx:x / 2=e
   ·rw[if_pos hx,if_pos hx,h x hx,ih]
   ·rw[if_neg hx,if_neg hx]
 exact key 2 x
theorem turn_shrink {s:List Nat} (hs:IsPerm s) (he:s.length % 2=0) {e:Nat} (hn:2*e+2≤s.length):phiL (doneL (exL s e) e)=doneL (phiL s) e:=by
 have hl:(doneL (exL s e) e).length=s.length-2:=by rw[doneL_length,exL_length]
 refine eq_at (by rw[phiL_length,hl,doneL_length,phiL_length]) fun j hj=>?_
 rw[phiL_length,hl] at hj
 have hjm:(j ^^^ 1)<s.length-2:=xor_one_lt (by omega) hj
 have hd:unL e j<s.length:=unL_lt hn hj
 have hdm:(unL e j ^^^ 1)<s.length:=xor_one_lt he hd
 rw[phiL_at (by rw[hl];exact hj),doneL_at (by rw[exL_length];exact hjm),doneL_at (by rw[phiL_length];exact hj),unL_mate,phiL_at hd,exL_at hdm,exI_else (fun h=>unL_own (mate_own.1 h))]
 congr 1
 refine pass_same (fun d hd=>?_) _
 have hdl:d<s.length:=by omega
 rw[exL_at hdl,exI_own hd,phiL_at hdl]
end
section
set_option linter.unusedVariables false
inductive Way (s:List Nat) (Q:Nat→Prop):Nat→Nat→Prop
 | one {d:Nat}:¬ Q (at' s d)→Way s Q d (at' s d)
 | more {d y:Nat}:Q (at' s d)→Way s Q (at' s d) y→Way s Q d y
theorem Way.same {s:List Nat} {Q:Nat→Prop} {d y z:Nat} (h:Way s Q d y):Way s Q d z→y=z:=by
 induction h with
 | one h=>intro k;cases k with
  | one _=>rfl
  | more k _=>exact absurd k h
 | more h _ ih=>intro k;cases k with
  | one k=>exact absurd h k
  | more _ k=>exact ih k
theorem Way.it {s:List Nat} {Q:Nat→Prop} {d y:Nat} (h:Way s Q d y):∃ m,itf (at' s) (m+1) d=y∧∀ j,1≤j→j≤m→Q (itf (at' s) j d):=by
 induction h with
 | one h=>exact⟨0,rfl,fun j h1 h2=>by omega⟩
 | more h _ ih=>
  obtain⟨m,e,hq⟩:=ih
  refine⟨m+1,e,fun j h1 h2=>?_⟩
  cases j with
  | zero=>omega
  | succ j=>
   cases j with
   | zero=>exact h
   | succ j=>exact hq (j+1) (by omega) (by omega)
section
variable {s : List Nat} (hs : IsPerm s)
include hs
theorem pass_way {e d:Nat} (hd:d<s.length) (ho:¬ d / 2=e):Way s (fun x=>x / 2=e) d (passN s e (at' s d)):=by
 have hp:=(pass_ok hs hd ho).1
 rcases pass_cases s e (at' s d) with ⟨a,b⟩|⟨a,a2,b⟩|⟨a,a2,b⟩
 ·rw[b];exact .one a
 ·rw[b];exact .more a (.one a2)
 ·rw[b] at hp ⊢;exact .more a (.more a2 (.one hp))
theorem done_way {e j:Nat} (hn:2*e+2≤s.length) (hj:j<s.length-2):Way s (fun x=>x / 2=e) (unL e j) (unL e (at' (doneL s e) j)):=by
 rw[doneL_at hj,un_nm (pass_ok hs (unL_lt hn hj) unL_own).1]
 exact pass_way hs (unL_lt hn hj) unL_own
end
end
section
set_option linter.unusedVariables false
theorem it_itf (s:List Nat):∀ (j x:Nat),it s j x=itf (at' s) j x
 | 0,_=>rfl
 | j+1,x=>it_itf s j (at' s x)
theorem sizesL_tally {s:List Nat} (hs:IsPerm s):(sizesL s).length=tally (Least (cyc s.length (at' s))) s.length:=by
 have h1:=sizesGo_length hs s.length (Nat.le_refl _)
 have h2:=(namesL_ord hs).cnt_eq (Nat.le_refl s.length)
 have e:sizesGo s s.length=sizesL s:=by unfold sizesGo sizesL;rw[List.take_of_length_le (by rw[namesL_length];exact Nat.le_refl _)]
 rw[←e,h1]
 exact h2
theorem tally_two {p:Nat→Prop} {n a b:Nat} (ha:a<n) (hb:b<n) (hab:a≠b) (h:∀ x,x<n→p x→x=a∨x=b):tally p n=ind (p a)+ind (p b):=by
 have none:∀ {q:Nat→Prop},(∀ x,x<n→q x→x=b)→¬ q b→tally q n=0:=fun h1 h2=>tally_none fun k hk hq=>h2 (h1 k hk hq ▸ hq)
 have one:∀ {q:Nat→Prop},(∀ x,x<n→q x→x=b)→q b→tally q n=1:=fun {q} h1 h2=>by
  rw[tally_but hb h2,tally_none fun k hk hq=>hq.2 (h1 k hk hq.1)]
 by_cases h1:p a
 ·have e:tally p n=tally (fun k=>p k∧k≠a) n+1:=tally_but ha h1
  have hx:∀ x,x<n→(p x∧x≠a)→x=b:=fun x hx hp=>(h x hx hp.1).resolve_left hp.2
  by_cases h2:p b
  ·have:=one hx ⟨h2,fun e=>hab e.symm⟩
   rw[ind_yes h1,ind_yes h2];omega
  ·have:=none hx (fun k=>h2 k.1)
   rw[ind_yes h1,ind_no h2];omega
 ·have hx:∀ x,x<n→p x→x=b:=fun x hx hp=>(h x hx hp).resolve_left (fun e=>h1 (e ▸ hp))
  by_cases h2:p b
  ·have:=one hx h2
   rw[ind_no h1,ind_yes h2];omega
  ·have:=none hx h2
   rw[ind_no h1,ind_no h2];omega
theorem ind_oneIf {p:Prop} {b:Bool} (h:p↔b=true):((ind p:Nat):Int)=oneIf b:=by
 cases b with
 | true=>rw[ind_yes (h.2 rfl)];rfl
 | false=>rw[ind_no (fun k=>by have:=h.1 k;cases this)];rfl
section
variable {p n : Nat} {r q : Nat → Nat → Prop} {P : Nat → Prop} (hr : Per p r) (hq : Per n q) (f : Nat → Nat)
 (hf:∀ x,x<p→f x<n∧P (f x)) (hb:∀ y,y<n→P y→∃ x,x<p∧q (f x) y) (hP:∀ x y,P x→q x y→P y) (hrq:∀ x y,x<p→y<p→(r x y↔q (f x) (f y)))
include hr hq hf hb hP hrq
theorem cls_cover:cls r (fun _=>True) p=cls q P n:=by
 have hx:∀ x,∃ l,x<p→q l (f x)∧Least q l:=fun x=>by
  by_cases h:x<p
  ·obtain⟨l,_,h1,h2⟩:=hq.least (f x) (hf x h).1
   exact⟨l,fun _=>⟨h1,h2⟩⟩
  ·exact⟨0,fun h'=>absurd h' h⟩
 have hy:∀ y,∃ l,y<n→P y→∃ x,x<p∧q (f x) y∧r l x∧Least r l:=fun y=>by
  by_cases h:y<n∧P y
  ·obtain⟨x,h1,h2⟩:=hb y h.1 h.2
   obtain⟨l,_,h3,h4⟩:=hr.least x h1
   exact⟨l,fun _ _=>⟨x,h1,h2,h3,h4⟩⟩
  ·exact⟨0,fun h1 h2=>absurd ⟨h1,h2⟩ h⟩
 refine Nat.le_antisymm ?_ ?_
 ·refine tally_inj (fun x=>Classical.choose (hx x)) (fun x hxp _=>?_) (fun x y hxp hyp h1 h2 e=>?_)
  ·obtain⟨h1,h2⟩:=Classical.choose_spec (hx x) hxp
   exact⟨hq.dom h1,hP _ _ (hf x hxp).2 (hq.symm h1),h2⟩
  ·have e:Classical.choose (hx x)=Classical.choose (hx y):=e
   have a:=(Classical.choose_spec (hx x) hxp).1
   have b:=(Classical.choose_spec (hx y) hyp).1
   rw[e] at a
   exact hr.least_one h1.2 h2.2 ((hrq x y hxp hyp).2 (hq.trans (hq.symm a) b))
 ·refine tally_inj (fun y=>Classical.choose (hy y)) (fun y hyn h=>?_) (fun y z hyn hzn h1 h2 e=>?_)
  ·obtain⟨x,h1,h2,h3,h4⟩:=Classical.choose_spec (hy y) hyn h.1
   exact⟨hr.dom h3,trivial,h4⟩
  ·have e:Classical.choose (hy y)=Classical.choose (hy z):=e
   obtain⟨x,a1,a2,a3,_⟩:=Classical.choose_spec (hy y) hyn h1.1
   obtain⟨x',b1,b2,b3,_⟩:=Classical.choose_spec (hy z) hzn h2.1
   rw[e] at a3
   have h:=(hrq x x' a1 b1).1 (hr.trans (hr.symm a3) b3)
   exact hq.least_one h1.2 h2.2 (hq.trans (hq.symm a2) (hq.trans h b2))
end
theorem itf_plus (f:Nat→Nat):∀ (a b x:Nat),itf f (a+b) x=itf f b (itf f a x)
 | 0,b,x=>by rw[Nat.zero_add];rfl
 | a+1,b,x=>by rw[show a+1+b=(a+b)+1 by omega];exact itf_plus f a b (f x)
section
variable {s : List Nat} (hs : IsPerm s) {e : Nat} (hn : 2 * e + 2 ≤ s.length)
include hs hn
theorem cyc_done {x y:Nat} (hx:x<s.length-2) (hy:y<s.length-2):cyc (s.length-2) (at' (doneL s e)) x y↔cyc s.length (at' s) (unL e x) (unL e y):=by
 have hp:Pm (s.length-2) (at' (doneL s e)):=by have:=(doneL_perm hs hn).pm;rwa [doneL_length] at this
 have hq:=hs.pm.per
 have hstep:∀ z,z<s.length-2→∃ m,itf (at' s) (m+1) (unL e z)=unL e (at' (doneL s e) z)∧∀ j,1≤j→j≤m→itf (at' s) j (unL e z) / 2=e:=fun z hz=>(done_way hs hn hz).it
 constructor
 ·have hper:Per (s.length-2) (fun x y=>x<s.length-2∧y<s.length-2∧cyc s.length (at' s) (unL e x) (unL e y)):=
   ⟨fun h=>⟨h,h,hq.refl (unL_lt hn h)⟩,fun h=>⟨h.2.1,h.1,hq.symm h.2.2⟩,fun h k=>⟨h.1,k.2.1,hq.trans h.2.2 k.2.2⟩,fun h=>h.1⟩
  intro h
  exact (hp.cyc_sub hper (fun z hz=>by
   obtain⟨m,e1,_⟩:=hstep z hz
   exact⟨hz,hp.lt hz,unL_lt hn hz,unL_lt hn (hp.lt hz),m+1,e1⟩) h).2.2
 ·rintro⟨_,_,m,hm⟩
  induction m using Nat.strongRecOn generalizing x with
  | ind m ih=>
   cases m with
   | zero=>
    have:unL e x=unL e y:=hm
    rw[unL_inj this]
    exact hp.per.refl hy
   | succ m=>
    obtain⟨m1,e1,hown⟩:=hstep x hx
    by_cases hle:m1≤m
    ·have e2:m+1=(m1+1)+(m-m1):=by omega
     rw[e2,itf_plus,e1] at hm
     exact hp.per.trans (hp.step hx) (ih (m-m1) (by omega) (hp.lt hx) (unL_lt hn (hp.lt hx)) hm)
    ·have:=hown (m+1) (by omega) (by omega)
     rw[hm] at this
     exact absurd this unL_own
theorem bare_iff {d:Nat} (hd:d<s.length):bareB s e d=true↔∀ z,cyc s.length (at' s) d z→z / 2=e:=by
 have _h:=hn
 unfold bareB ownB
 rw[List.all_eq_true]
 constructor
 ·rintro h z ⟨_,_,j,hj⟩
  have:=h z ((hs.mem_orbit hd).2 ⟨j,by rw[it_itf];exact hj⟩)
  simpa using this
 ·intro h y hy
  obtain⟨j,hj⟩:=(hs.mem_orbit hd).1 hy
  have hl:y<s.length:=by rw[←hj,it_itf];exact hs.pm.it hd j
  have:=h y ⟨hd,hl,j,by rw[←it_itf];exact hj⟩
  simpa using this
theorem cut_vertices:(((sizesL (doneL s e)).length:Nat):Int)+cutLone s e=((sizesL s).length:Nat):=by
 have hq:=hs.pm.per
 have hpd:=doneL_perm hs hn
 have hr:Per (s.length-2) (cyc (s.length-2) (at' (doneL s e))):=by have:=hpd.pm.per;rwa [doneL_length] at this
 have hA:2*e<s.length:=by omega
 have hB:2*e+1<s.length:=by omega
 have h1:(sizesL (doneL s e)).length=cls (cyc (s.length-2) (at' (doneL s e))) (fun _=>True) (s.length-2):=by
  rw[sizesL_tally hpd,doneL_length]
  exact tally_congr fun k _=>⟨fun h=>⟨trivial,h⟩,fun h=>h.2⟩
 have h2:=cls_cover (P:=fun y=>∃ z,cyc s.length (at' s) y z∧¬ z / 2=e) hr hq (unL e) (fun x hx=>⟨unL_lt hn hx,unL e x,hq.refl (unL_lt hn hx),unL_own⟩) (fun y hy hP=>by
  obtain⟨z,hz,ho⟩:=hP
  have hzl:=hq.cod hz
  exact⟨nmL e z,nmL_lt hn ho hzl,by rw[un_nm ho];exact hq.symm hz⟩) (fun x y hx hxy=>by
  obtain⟨z,hz,ho⟩:=hx
  exact⟨z,hq.trans (hq.symm hxy) hz,ho⟩) (fun x y hx hy=>cyc_done hs hn hx hy)
 have h3:(sizesL s).length=cls (cyc s.length (at' s)) (fun y=>∃ z,cyc s.length (at' s) y z∧¬ z / 2=e) s.length+tally (fun x=>Least (cyc s.length (at' s)) x∧¬ ∃ z,cyc s.length (at' s) x z∧¬ z / 2=e) s.length:=by
  rw[sizesL_tally hs,tally_split _ (fun y=>∃ z,cyc s.length (at' s) y z∧¬ z / 2=e)]
  congr 1
  exact tally_congr fun k _=>And.comm
 have hown:∀ x,x<s.length→(¬ ∃ z,cyc s.length (at' s) x z∧¬ z / 2=e)→x / 2=e:=fun x hx h=>by
  by_cases ho:x / 2=e
  ·exact ho
  ·exact absurd ⟨x,hq.refl hx,ho⟩ h
 have h4:=tally_two (p:=fun x=>Least (cyc s.length (at' s)) x∧¬ ∃ z,cyc s.length (at' s) x z∧¬ z / 2=e) hA hB (by omega) (fun x hx hp=>by have:=hown x hx hp.2;omega)
 have hbare:∀ d,d<s.length→(bareB s e d=true↔¬ ∃ z,cyc s.length (at' s) d z∧¬ z / 2=e):=fun d hd=>by
  rw[bare_iff hs hn hd]
  constructor
  ·rintro h ⟨z,hz,ho⟩
   exact ho (h z hz)
  ·intro h z hz
   by_cases ho:z / 2=e
   ·exact ho
   ·exact absurd ⟨z,hz,ho⟩ h
 have hrel:=(namesL_ord hs).rel (2*e) (2*e+1) hA hB
 have hpa:(Least (cyc s.length (at' s)) (2*e)∧¬ ∃ z,cyc s.length (at' s) (2*e) z∧¬ z / 2=e)↔bareB s e (2*e)=true:=by
  rw[hbare _ hA]
  exact⟨fun h=>h.2,fun h=>⟨fun y hy hc=>h ⟨y,hq.symm hc,by omega⟩,h⟩⟩
 have hpb:(Least (cyc s.length (at' s)) (2*e+1)∧¬ ∃ z,cyc s.length (at' s) (2*e+1) z∧¬ z / 2=e)↔(!decide (nth (namesL s) (2*e)=nth (namesL s) (2*e+1)) && bareB s e (2*e+1))=true:=by
  rw[Bool.and_eq_true,hbare _ hB,Bool.not_eq_true',decide_eq_false_iff_not,hrel]
  constructor
  ·exact fun h=>⟨fun k=>h.1 (2*e) (by omega) k,h.2⟩
  ·refine fun h=>⟨fun y hy hc=>?_,h.2⟩
   by_cases hy2:y=2*e
   ·subst hy2;exact h.1 hc
   ·exact h.2 ⟨y,hq.symm hc,by omega⟩
 rw[h1,h2,h3]
 unfold cutLone
 have ea:=ind_oneIf hpa
 have eb:=ind_oneIf hpb
 rw[←ea,←eb,h4]
 omega
end
end
section
set_option linter.unusedVariables false
theorem exL_swp {s:List Nat} {e x:Nat} (hx:x<s.length):at' (exL s e) x=swp (at' s) (2*e) (2*e+1) x:=by
 rw[exL_at hx]
 unfold exI swp
 by_cases h1:x=2*e
 ·subst h1;rw[if_neg (by omega),if_pos rfl,if_pos rfl]
 ·by_cases h2:x=2*e+1
  ·subst h2;rw[if_pos rfl,if_neg h1,if_pos rfl]
  ·rw[if_neg h2,if_neg h1,if_neg h1,if_neg h2]
section
variable {s : List Nat} (hs : IsPerm s) {e : Nat} (hn : 2 * e + 2 ≤ s.length) (hne : nth (namesL s) (2 * e) ≠ nth (namesL s) (2 * e + 1))
include hs hn hne
theorem ex_not:¬ cyc s.length (at' s) (2*e) (2*e+1):=fun h=>hne (((namesL_ord hs).rel _ _ (by omega) (by omega)).2 h)
theorem ex_cyc {x y:Nat} (hx:x<s.length) (hy:y<s.length):cyc s.length (at' (exL s e)) x y↔mrg (cyc s.length (at' s)) (2*e) (2*e+1) x y:=by
 rw[←hs.pm.swp_mrg (by omega) (by omega) (by omega) (ex_not hs hn hne)]
 have h1:Pm s.length (at' (exL s e)):=by have:=(exL_perm hs hn).pm;rwa [exL_length] at this
 have h2:Pm s.length (swp (at' s) (2*e) (2*e+1)):=hs.pm.swap (by omega) (by omega) (by omega)
 constructor
 ·exact h1.cyc_sub h2.per fun z hz=>by rw[exL_swp hz];exact h2.step hz
 ·exact h2.cyc_sub h1.per fun z hz=>by rw[←exL_swp hz];exact h1.step hz
theorem ex_vertices:(sizesL (exL s e)).length+1=(sizesL s).length:=by
 rw[sizesL_tally (exL_perm hs hn),sizesL_tally hs,exL_length]
 have h:=cls_mrg hs.pm.per (P:=fun _=>True) (fun _ _ _ _=>trivial) (a:=2*e) (b:=2*e+1) (by omega) (by omega) (ex_not hs hn hne) trivial trivial
 have e1:∀ (r:Nat→Nat→Prop) n,cls r (fun _=>True) n=tally (Least r) n:=fun r n=>tally_congr fun k _=>⟨fun h=>h.2,fun h=>⟨trivial,h⟩⟩
 have e2:cls (cyc s.length (at' (exL s e))) (fun _=>True) s.length=cls (mrg (cyc s.length (at' s)) (2*e) (2*e+1)) (fun _=>True) s.length:=cls_congr fun x y hx hy=>ex_cyc hs hn hne hx hy
 rw[←e1,←e1,e2]
 omega
theorem ex_lone:cutLone (exL s e) e=shrLone s e:=by
 have hp:=exL_perm hs hn
 have hl:=exL_length s e
 have hq:=hs.pm.per
 have hA:2*e<s.length:=by omega
 have hB:2*e+1<s.length:=by omega
 have hc:=fun x y (hx:x<s.length) (hy:y<s.length)=>ex_cyc hs hn hne hx hy
 have hab:cyc s.length (at' (exL s e)) (2*e) (2*e+1):=(hc _ _ hA hB).2 (Or.inr (Or.inl ⟨hq.refl hA,hq.refl hB⟩))
 have hnm:nth (namesL (exL s e)) (2*e)=nth (namesL (exL s e)) (2*e+1):=by
  have:=(namesL_ord hp).rel (2*e) (2*e+1) (by rw[hl];exact hA) (by rw[hl];exact hB)
  rw[hl] at this
  exact this.2 hab
 unfold cutLone shrLone
 rw[decide_eq_true hnm]
 have hb:bareB (exL s e) e (2*e)=(bareB s e (2*e) && bareB s e (2*e+1)):=by
  rw[Bool.eq_iff_iff,Bool.and_eq_true,bare_iff hs hn hA,bare_iff hs hn hB,bare_iff hp (by rw[hl];exact hn) (by rw[hl];exact hA),hl]
  constructor
  ·refine fun h=>⟨fun z hz=>h z ((hc _ _ hA (hq.cod hz)).2 (Or.inl hz)),fun z hz=>h z ((hc _ _ hA (hq.cod hz)).2 (Or.inr (Or.inl ⟨hq.refl hA,hz⟩)))⟩
  ·rintro⟨h1,h2⟩ z hz
   have hpe:Per s.length (cyc s.length (at' (exL s e))):=by have:=hp.pm.per;rwa [hl] at this
   rcases (hc _ _ hA (hpe.cod hz)).1 hz with k|⟨_,k⟩|⟨_,k⟩
   ·exact h1 z k
   ·exact h2 z k
   ·exact h1 z k
 rw[hb]
 simp[oneIf]
theorem shrink_vertices:(((sizesL (doneL (exL s e) e)).length:Nat):Int)+shrLone s e+1=((sizesL s).length:Nat):=by
 have h1:=cut_vertices (exL_perm hs hn) (e:=e) (by rw[exL_length];exact hn)
 have h2:=ex_vertices hs hn hne
 rw[ex_lone hs hn hne] at h1
 omega
theorem phi_lone (he:s.length % 2=0):cutLone (phiL s) e=shrLone s e:=by
 have hp:=phiL_perm hs he
 have hl:=phiL_length s
 have hA:2*e<s.length:=by omega
 have hB:2*e+1<s.length:=by omega
 have hq:=hs.pm.per
 have hpe:Per s.length (cyc s.length (at' (phiL s))):=by have:=hp.pm.per;rwa [hl] at this
 have hst:∀ z,z<s.length→cyc s.length (at' (phiL s)) z (at' (phiL s) z):=fun z hz=>by have:=hp.pm.step (x:=z) (by rw[hl];exact hz);rwa [hl] at this
 have x1:(2*e) ^^^ 1=2*e+1:=xor_even e
 have x2:(2*e+1) ^^^ 1=2*e:=by rw[←x1,xor_one_one]
 have pa:at' (phiL s) (2*e)=at' s (2*e+1):=by rw[phiL_at hA,x1]
 have pb:at' (phiL s) (2*e+1)=at' s (2*e):=by rw[phiL_at hB,x2]
 have nn:=ex_not hs hn hne
 have own:∀ z,z / 2=e→z=2*e∨z=2*e+1:=fun z hz=>by omega
 have va:bareB s e (2*e)=true↔at' s (2*e)=2*e:=by
  rw[bare_iff hs hn hA]
  constructor
  ·intro h
   rcases own _ (h _ (hs.pm.step hA)) with k|k
   ·exact k
   ·exact absurd (by have:=hs.pm.step hA;rwa [k] at this) nn
  ·intro h z hz
   have:=hs.pm.cyc_sub (r:=fun x y=>x<s.length∧y<s.length∧(x=2*e↔y=2*e)) ⟨fun h=>⟨h,h,Iff.rfl⟩,fun h=>⟨h.2.1,h.1,h.2.2.symm⟩,fun h k=>⟨h.1,k.2.1,h.2.2.trans k.2.2⟩,fun h=>h.1⟩ (fun x hx=>⟨hx,hs.lt hx,⟨fun e1=>by rw[e1];exact h,fun e1=>hs.inj hx hA (by rw[h];exact e1)⟩⟩) hz
   have:=this.2.2.1 rfl
   omega
 have vb:bareB s e (2*e+1)=true↔at' s (2*e+1)=2*e+1:=by
  rw[bare_iff hs hn hB]
  constructor
  ·intro h
   rcases own _ (h _ (hs.pm.step hB)) with k|k
   ·exact absurd (hq.symm (by have:=hs.pm.step hB;rwa [k] at this)) nn
   ·exact k
  ·intro h z hz
   have:=hs.pm.cyc_sub (r:=fun x y=>x<s.length∧y<s.length∧(x=2*e+1↔y=2*e+1)) ⟨fun h=>⟨h,h,Iff.rfl⟩,fun h=>⟨h.2.1,h.1,h.2.2.symm⟩,fun h k=>⟨h.1,k.2.1,h.2.2.trans k.2.2⟩,fun h=>h.1⟩ (fun x hx=>⟨hx,hs.lt hx,⟨fun e1=>by rw[e1];exact h,fun e1=>hs.inj hx hB (by rw[h];exact e1)⟩⟩) hz
   have:=this.2.2.1 rfl
   omega
 have fa:bareB (phiL s) e (2*e)=true↔at' s (2*e)=2*e∧at' s (2*e+1)=2*e+1:=by
  rw[bare_iff hp (by rw[hl];exact hn) (by rw[hl];exact hA),hl]
  constructor
  ·intro h
   have h1:=h _ (hst _ hA)
   rw[pa] at h1
   have k1:at' s (2*e+1)=2*e+1:=by
    rcases own _ h1 with k|k
    ·exact absurd (hq.symm (by have:=hs.pm.step hB;rwa [k] at this)) nn
    ·exact k
   have h2:=h _ (hpe.trans (hst _ hA) (by rw[pa,k1];exact hst _ hB))
   rw[pb] at h2
   refine⟨?_,k1⟩
   rcases own _ h2 with k|k
   ·exact k
   ·exact absurd (by have:=hs.pm.step hA;rwa [k] at this) nn
  ·rintro⟨k1,k2⟩ z hz
   have hpm:Pm s.length (at' (phiL s)):=by have:=hp.pm;rwa [hl] at this
   have:=hpm.cyc_sub (r:=fun x y=>x<s.length∧y<s.length∧(x / 2=e↔y / 2=e)) ⟨fun h=>⟨h,h,Iff.rfl⟩,fun h=>⟨h.2.1,h.1,h.2.2.symm⟩,fun h k=>⟨h.1,k.2.1,h.2.2.trans k.2.2⟩,fun h=>h.1⟩ (fun x hx=>by
    refine⟨hx,hpm.lt hx,⟨fun e1=>?_,fun e1=>?_⟩⟩
    ·rcases own _ e1 with rfl|rfl
     ·rw[pa,k2];omega
     ·rw[pb,k1];omega
    ·rcases own _ e1 with k|k
     ·have:=hpm.inj hx hB (by rw[pb,k1];exact k);omega
     ·have:=hpm.inj hx hA (by rw[pa,k2];exact k);omega) hz
   exact this.2.2.1 (by omega)
 unfold cutLone shrLone
 by_cases hboth:at' s (2*e)=2*e∧at' s (2*e+1)=2*e+1
 ·have hnm:nth (namesL (phiL s)) (2*e)=nth (namesL (phiL s)) (2*e+1):=by
   have:=(namesL_ord hp).rel (2*e) (2*e+1) (by rw[hl];exact hA) (by rw[hl];exact hB)
   rw[hl] at this
   exact this.2 (by have:=hst _ hA;rwa [pa,hboth.2] at this)
  rw[decide_eq_true hnm,fa.2 hboth,va.2 hboth.1,vb.2 hboth.2]
  rfl
 ·have h1:bareB (phiL s) e (2*e)=false:=Bool.eq_false_iff.2 fun h=>hboth (fa.1 h)
  have h2:(bareB s e (2*e) && bareB s e (2*e+1))=false:=Bool.eq_false_iff.2 fun h=>by
   rw[Bool.and_eq_true] at h
   exact hboth ⟨va.1 h.1,vb.1 h.2⟩
  have h3:(!decide (nth (namesL (phiL s)) (2*e)=nth (namesL (phiL s)) (2*e+1)) && bareB (phiL s) e (2*e+1))=false:=Bool.eq_false_iff.2 fun h=>by
   rw[Bool.and_eq_true] at h
   have hb:=(bare_iff hp (by rw[hl];exact hn) (by rw[hl];exact hB)).1 h.2
   rw[hl] at hb
   have h4:=hb _ (hst _ hB)
   rw[pb] at h4
   rcases own _ h4 with k|k
   ·have h5:=hb _ (hpe.trans (hst _ hB) (by rw[pb,k];exact hst _ hA))
    rw[pa] at h5
    rcases own _ h5 with k5|k5
    ·exact nn (hq.symm (by have:=hs.pm.step hB;rwa [k5] at this))
    ·exact hboth ⟨k,k5⟩
   ·exact nn (by have:=hs.pm.step hA;rwa [k] at this)
  rw[h1,h2,h3]
  rfl
end
end
section
set_option linter.unusedVariables false
def relL (s t:List Nat):List Nat:=(List.range s.length).map fun j=>at' t (at' s (at' (invL t) j))
theorem relL_length (s t:List Nat):(relL s t).length=s.length:=by simp[relL]
theorem relL_at {s t:List Nat} {j:Nat} (h:j<s.length):at' (relL s t) j=at' t (at' s (at' (invL t) j)):=by simp[relL,at',h]
def Mates (t:List Nat):Prop:=∀ d,d<t.length→at' t (d ^^^ 1)=at' t d ^^^ 1
section
variable {s t : List Nat} (hs : IsPerm s) (ht : IsPerm t) (hl : t.length = s.length)
include hs ht hl
theorem relL_perm:IsPerm (relL s t):=by
 refine IsPerm.of_inj (fun i hi=>?_) (fun i j hi hj e=>?_)
 ·rw[relL_length] at hi ⊢
  rw[relL_at hi,←hl]
  exact ht.lt (by rw[hl];exact hs.lt (by rw[←hl];exact (at_invL ht (by rw[hl];exact hi)).2))
 ·rw[relL_length] at hi hj
  have h1:=(at_invL ht (y:=i) (by rw[hl];exact hi))
  have h2:=(at_invL ht (y:=j) (by rw[hl];exact hj))
  rw[relL_at hi,relL_at hj] at e
  have e1:=ht.inj (by rw[hl];exact hs.lt (by rw[←hl];exact h1.2)) (by rw[hl];exact hs.lt (by rw[←hl];exact h2.2)) e
  have e2:=hs.inj (by rw[←hl];exact h1.2) (by rw[←hl];exact h2.2) e1
  rw[←h1.1,←h2.1,e2]
end
theorem relL_to {s t:List Nat} (ht:IsPerm t) (hl:t.length=s.length) {d:Nat} (hd:d<s.length):at' (relL s t) (at' t d)=at' t (at' s d):=by
 have hd':d<t.length:=by rw[hl];exact hd
 rw[relL_at (by rw[←hl];exact ht.lt hd'),invL_at ht hd']
def relGo (s t:List Nat) (i:Nat):List Int:=(List.range s.length).map fun j=>if at' (invL t) j<i then ((at' t (at' s (at' (invL t) j)):Nat):Int) else 0
theorem relGo_length (s t:List Nat) (i:Nat):(relGo s t i).length=s.length:=by simp[relGo]
theorem relGo_zero (s t:List Nat):relGo s t 0=List.replicate s.length 0:=by
 refine List.ext_getElem (by simp[relGo]) fun i h1 h2=>?_
 simp[relGo]
theorem relGo_set {s t:List Nat} (ht:IsPerm t) (hl:t.length=s.length) {i:Nat} (hi:i<s.length):(relGo s t i).set (at' t i) ((at' t (at' s i):Nat):Int)=relGo s t (i+1):=by
 refine List.ext_getElem (by simp[relGo]) fun j h1 h2=>?_
 have hj:j<s.length:=by simp[relGo] at h2;exact h2
 rw[List.getElem_set]
 have hit:i<t.length:=by rw[hl];exact hi
 have h:=at_invL ht (y:=j) (by rw[hl];exact hj)
 by_cases e1:at' t i=j
 ·subst e1
  rw[if_pos rfl]
  simp only[relGo,List.getElem_map,List.getElem_range,invL_at ht hit]
  rw[if_pos (by omega)]
 ·rw[if_neg e1]
  simp only[relGo,List.getElem_map,List.getElem_range]
  by_cases h3:at' (invL t) j<i
  ·rw[if_pos h3,if_pos (by omega)]
  ·have:at' (invL t) j≠i:=fun e'=>e1 (by rw[←e',h.1])
   rw[if_neg h3,if_neg (by omega)]
theorem relGo_all {s t:List Nat} (ht:IsPerm t) (hl:t.length=s.length):relGo s t s.length=toI (relL s t):=by
 unfold relGo relL toI
 rw[List.map_map]
 refine List.map_congr_left fun j hj=>?_
 rw[if_pos (by rw[←hl];exact (at_invL ht (by rw[hl];exact List.mem_range.1 hj)).2)]
 rfl
theorem relRoot {s t:List Nat} {root lone:Int} (h:MapOk s root lone) (ht:IsPerm t) (hl:t.length=s.length):MapOk (relL s t) (atI t root) lone:=by
 obtain⟨h1,h2,h3,h4,h5⟩:=h
 have hrl:=relL_length s t
 refine⟨by rw[hrl];exact h1,by rw[hrl];exact h2,h3,h4,?_⟩
 rcases h5 with ⟨h5,rfl⟩|⟨h5,h6⟩
 ·left;exact⟨by rw[hrl];exact h5,atI_out (Or.inl (by omega))⟩
 ·right
  obtain⟨k,rfl⟩:=Int.eq_ofNat_of_zero_le h5
  have hk:k<t.length:=by omega
  rw[atI_in hk,hrl]
  have:=ht.lt hk
  omega
end
section
set_option linter.unusedVariables false
def sumK (f:Nat→Nat):Nat→Nat
 | 0=>0
 | k+1=>sumK f k+f k
theorem sum_tally {N:Nat→Int} {p:Nat→Prop} {n C:Nat} (h0:∀ d,d<n→0≤N d∧N d<(C:Int)):sumK (fun k=>tally (fun d=>N d=(k:Int)∧p d) n) C=tally p n:=by
 have key:∀ c,sumK (fun k=>tally (fun d=>N d=(k:Int)∧p d) n) c=tally (fun d=>p d∧N d<(c:Int)) n:=fun c=>by
  induction c with
  | zero=>exact (tally_none fun d hd h=>by have:=(h0 d hd).1;have:=h.2;omega).symm
  | succ c ih=>
   show sumK _ c+_=_
   rw[ih,tally_split (fun d=>p d∧N d<((c+1:Nat):Int)) (fun d=>N d<(c:Int))]
   congr 1
   ·exact tally_congr fun d _=>⟨fun h=>⟨⟨h.1,by omega⟩,h.2⟩,fun h=>⟨h.1.1,h.2⟩⟩
   ·exact tally_congr fun d _=>⟨fun h=>⟨⟨h.2,by omega⟩,by omega⟩,fun h=>⟨by omega,h.1.1⟩⟩
 rw[key]
 exact tally_congr fun d hd=>⟨fun h=>h.1,fun h=>⟨h,(h0 d hd).2⟩⟩
theorem genus_total {s:List Nat} (hs:IsPerm s) (he:s.length % 2=0):2*genusL s=2*(partsN s:Int)-((sizesL s).length:Nat)+((s.length / 2:Nat):Int)-((sizesL (phiL s)).length:Nat):=by
 have hp:=phiL_perm hs he
 have hN:∀ d,d<s.length→0≤nth (partsL s) d∧nth (partsL s) d<((partsN s:Nat):Int):=fun d hd=>partsL_lt hs he hd
 have h1:sumK (fun k=>vcnt s (partsL s) (k:Int) s.length) (partsN s)=(sizesL s).length:=by
  rw[sizesL_tally hs,←sum_tally (p:=Least (cyc s.length (at' s))) hN]
  congr 1
  funext k
  exact vcnt_tally hs (partsL s) k (Nat.le_refl _)
 have h2:sumK (fun k=>vcnt (phiL s) (partsL s) (k:Int) s.length) (partsN s)=(sizesL (phiL s)).length:=by
  rw[sizesL_tally hp,phiL_length,←sum_tally (p:=Least (cyc s.length (at' (phiL s)))) hN]
  congr 1
  funext k
  have:=vcnt_tally hp (partsL s) k (j:=s.length) (by rw[phiL_length];exact Nat.le_refl _)
  rw[phiL_length] at this
  exact this
 have h3:sumK (fun k=>ecnt (partsL s) (k:Int) s.length) (partsN s)=s.length / 2:=by
  have e:∀ k:Nat,ecnt (partsL s) (k:Int) s.length=tally (fun e=>nth (partsL s) (2*e)=(k:Int)∧True) (s.length / 2):=fun k=>by
   have:=(edges_tally (s:=s) (k:Int) (fun x hx=>partsL_mate hs he hx) (e:=s.length / 2) (by omega)).1
   rw[show 2*(s.length / 2)=s.length by omega] at this
   rw[this]
   exact tally_congr fun d _=>⟨fun h=>⟨h,trivial⟩,fun h=>h.1⟩
  rw[show (fun k:Nat=>ecnt (partsL s) (k:Int) s.length)=fun k:Nat=>tally (fun e=>nth (partsL s) (2*e)=(k:Int)∧True) (s.length / 2) from funext e,
   sum_tally (N:=fun e=>nth (partsL s) (2*e)) (p:=fun _=>True) (n:=s.length / 2) (C:=partsN s) fun d hd=>hN (2*d) (by omega)]
  exact tally_all fun _ _=>trivial
 have key:∀ c,c≤partsN s→2*genusTo s c=2*(c:Int)-(sumK (fun k=>vcnt s (partsL s) (k:Int) s.length) c:Nat)+(sumK (fun k=>ecnt (partsL s) (k:Int) s.length) c:Nat)-(sumK (fun k=>vcnt (phiL s) (partsL s) (k:Int) s.length) c:Nat):=fun c=>by
  induction c with
  | zero=>intro _;rfl
  | succ c ih=>
   intro hc
   have ih:=ih (by omega)
   have hg:=(genOf_euler hs he (k:=c) (by omega)).2
   show 2*(genusTo s c+genOf s (partsL s) c)=_
   simp only[sumK]
   omega
 have:=key (partsN s) (Nat.le_refl _)
 rw[h1,h2,h3] at this
 exact this
section
variable {p n : Nat} {r q : Nat → Nat → Prop} {P' P : Nat → Prop} (hr : Per p r) (hq : Per n q) (f : Nat → Nat)
 (hf:∀ x,x<p→P' x→f x<n∧P (f x)) (hb:∀ y,y<n→P y→∃ x,x<p∧P' x∧q (f x) y) (hP:∀ x y,P x→q x y→P y) (hP':∀ x y,P' x→r x y→P' y) (hfl:∀ x,x<p→f x<n) (hrq:∀ x y,x<p→y<p→(r x y↔q (f x) (f y)))
include hr hq hf hb hP hP' hfl hrq
end
section
variable {s t : List Nat} (hs : IsPerm s) (ht : IsPerm t) (hl : t.length = s.length)
include hs ht hl
theorem rel_it:∀ (j:Nat) {x:Nat},x<s.length→itf (at' (relL s t)) j (at' t x)=at' t (itf (at' s) j x)
 | 0,x,_=>rfl
 | j+1,x,hx=>by
  show itf _ j (at' (relL s t) (at' t x))=at' t (itf (at' s) j (at' s x))
  rw[relL_to ht hl hx]
  exact rel_it j (hs.lt hx)
theorem rel_cyc {x y:Nat} (hx:x<s.length) (hy:y<s.length):cyc s.length (at' s) x y↔cyc s.length (at' (relL s t)) (at' t x) (at' t y):=by
 have hlt:∀ x,x<s.length→at' t x<s.length:=fun x hx=>by have:=ht.lt (i:=x) (by rw[hl];exact hx);omega
 constructor
 ·rintro⟨_,_,j,e⟩
  exact⟨hlt x hx,hlt y hy,j,by rw[rel_it hs ht hl j hx,e]⟩
 ·rintro⟨_,_,j,e⟩
  rw[rel_it hs ht hl j hx] at e
  exact⟨hx,hy,j,ht.inj (by rw[hl];exact hs.pm.it hx j) (by rw[hl];exact hy) e⟩
theorem rel_vertices:(sizesL (relL s t)).length=(sizesL s).length:=by
 have hp:=relL_perm hs ht hl
 have hlt:∀ x,x<s.length→at' t x<s.length:=fun x hx=>by have:=ht.lt (i:=x) (by rw[hl];exact hx);omega
 rw[sizesL_tally hs,sizesL_tally hp,relL_length]
 have h:=cls_cover (p:=s.length) (n:=s.length) (P:=fun _=>True) hs.pm.per (q:=cyc s.length (at' (relL s t))) (by have:=hp.pm.per;rwa [relL_length] at this) (at' t) (fun x hx=>⟨hlt x hx,trivial⟩) (fun y hy _=>by
  obtain⟨x,hx,e⟩:=ht.surj (y:=y) (by rw[hl];exact hy)
  refine⟨x,by rw[←hl];exact hx,?_⟩
  rw[e]
  exact (show Per s.length (cyc s.length (at' (relL s t))) by have:=hp.pm.per;rwa [relL_length] at this).refl hy) (fun _ _ _ _=>trivial) (fun x y hx hy=>rel_cyc hs ht hl hx hy)
 have e1:cls (cyc s.length (at' s)) (fun _=>True) s.length=tally (Least (cyc s.length (at' s))) s.length:=tally_congr fun k _=>⟨fun h=>h.2,fun h=>⟨trivial,h⟩⟩
 have e2:cls (cyc s.length (at' (relL s t))) (fun _=>True) s.length=tally (Least (cyc s.length (at' (relL s t)))) s.length:=tally_congr fun k _=>⟨fun h=>h.2,fun h=>⟨trivial,h⟩⟩
 rw[←e1,←e2,h]
end
theorem phi_rel {s t:List Nat} (he:s.length % 2=0) (ht:IsPerm t) (hl:t.length=s.length) (hm:Mates t):phiL (relL s t)=relL (phiL s) t:=by
 refine eq_at (by rw[phiL_length,relL_length,relL_length,phiL_length]) fun j hj=>?_
 rw[phiL_length,relL_length] at hj
 obtain⟨d,hd,rfl⟩:=ht.surj (y:=j) (by rw[hl];exact hj)
 have hds:d<s.length:=by rw[←hl];exact hd
 rw[phiL_at (by rw[relL_length];exact hj),←hm d hd,relL_to ht hl (xor_one_lt he hds),relL_to ht (by rw[phiL_length];exact hl) (by rw[phiL_length];exact hds),phiL_at hds]
section
variable {s t : List Nat} (hs : IsPerm s) (he : s.length % 2 = 0) (ht : IsPerm t) (hl : t.length = s.length) (hm : Mates t)
include hs he ht hl hm
theorem con_rel {x y:Nat} (hx:x<s.length) (hy:y<s.length):Con s x y↔Con (relL s t) (at' t x) (at' t y):=by
 have hp:=relL_perm hs ht hl
 have hrl:=relL_length s t
 have hlt:∀ x,x<s.length→at' t x<s.length:=fun x hx=>by have:=ht.lt (i:=x) (by rw[hl];exact hx);omega
 have hper:Per s.length (Con (relL s t)):=by have:=Con.per hp;rwa [hrl] at this
 have hps:=Con.per hs
 constructor
 ·intro h
  have hr:Per s.length (fun x y=>x<s.length∧y<s.length∧Con (relL s t) (at' t x) (at' t y)):=
   ⟨fun h=>⟨h,h,hper.refl (hlt _ h)⟩,fun h=>⟨h.2.1,h.1,hper.symm h.2.2⟩,fun h k=>⟨h.1,k.2.1,hper.trans h.2.2 k.2.2⟩,fun h=>h.1⟩
  exact (Con.sub hs hr (fun z hz=>⟨hz,hs.lt hz,by
   rw[←relL_to ht hl hz]
   exact Con.step hp (by rw[hrl];exact hlt z hz)⟩) (fun z hz=>⟨hz,xor_one_lt he hz,by
   rw[hm z (by rw[hl];exact hz)]
   exact Con.mate hp (by rw[hrl];exact he) (by rw[hrl];exact hlt z hz)⟩) h).2.2
 ·intro h
  have hinv:∀ z,z<s.length→∃ d,d<s.length∧at' t d=z:=fun z hz=>by
   obtain⟨d,hd,e⟩:=ht.surj (y:=z) (by rw[hl];exact hz)
   exact⟨d,by omega,e⟩
  have hr:Per s.length (fun x y=>∃ a b,a<s.length∧b<s.length∧at' t a=x∧at' t b=y∧Con s a b):=by
   refine⟨fun {x} h=>?_,?_,?_,?_⟩
   ·obtain⟨d,hd,e⟩:=hinv x h
    exact⟨d,d,hd,hd,e,e,hps.refl hd⟩
   ·rintro x y ⟨a,b,ha,hb,e1,e2,h⟩
    exact⟨b,a,hb,ha,e2,e1,hps.symm h⟩
   ·rintro x y z ⟨a,b,ha,hb,e1,e2,h⟩ ⟨b',c,hb',hc,e3,e4,k⟩
    have:b=b':=ht.inj (by omega) (by omega) (by rw[e2,e3])
    subst this
    exact⟨a,c,ha,hc,e1,e4,hps.trans h k⟩
   ·rintro x y ⟨a,b,ha,hb,e1,e2,h⟩
    rw[←e1];exact hlt a ha
  obtain⟨a,b,ha,hb,e1,e2,hc⟩:=Con.sub hp (r:=fun x y=>∃ a b,a<s.length∧b<s.length∧at' t a=x∧at' t b=y∧Con s a b) (by rw[hrl];exact hr) (fun z hz=>by
   rw[hrl] at hz
   obtain⟨d,hd,rfl⟩:=hinv z hz
   exact⟨d,at' s d,hd,hs.lt hd,rfl,(relL_to ht hl hd).symm,Con.step hs hd⟩) (fun z hz=>by
   rw[hrl] at hz
   obtain⟨d,hd,rfl⟩:=hinv z hz
   exact⟨d,d ^^^ 1,hd,xor_one_lt he hd,rfl,hm d (by omega),Con.mate hs he hd⟩) h
  have h1:a=x:=ht.inj (by omega) (by omega) e1
  have h2:b=y:=ht.inj (by omega) (by omega) e2
  rw[h1,h2] at hc
  exact hc
theorem rel_parts:partsN (relL s t)=partsN s:=by
 have hp:=relL_perm hs ht hl
 have hrl:=relL_length s t
 have her:(relL s t).length % 2=0:=by rw[hrl];exact he
 have hlt:∀ x,x<s.length→at' t x<s.length:=fun x hx=>by have:=ht.lt (i:=x) (by rw[hl];exact hx);omega
 have hper:Per s.length (Con (relL s t)):=by have:=Con.per hp;rwa [hrl] at this
 have a:=(partsL_ord hs he).cnt_eq (Nat.le_refl s.length)
 have b:=(partsL_ord hp her).cnt_eq (Nat.le_refl (relL s t).length)
 have h:=cls_cover (p:=s.length) (n:=s.length) (P:=fun _=>True) (Con.per hs) hper (at' t) (fun x hx=>⟨hlt x hx,trivial⟩) (fun y hy _=>by
  obtain⟨x,hx,e⟩:=ht.surj (y:=y) (by rw[hl];exact hy)
  refine⟨x,by rw[←hl];exact hx,?_⟩
  rw[e]
  exact hper.refl hy) (fun _ _ _ _=>trivial) (fun x y hx hy=>con_rel hs he ht hl hm hx hy)
 have e1:cls (Con s) (fun _=>True) s.length=tally (Least (Con s)) s.length:=tally_congr fun k _=>⟨fun h=>h.2,fun h=>⟨trivial,h⟩⟩
 have e2:cls (Con (relL s t)) (fun _=>True) s.length=tally (Least (Con (relL s t))) s.length:=tally_congr fun k _=>⟨fun h=>h.2,fun h=>⟨trivial,h⟩⟩
 unfold partsN
 rw[hrl] at b ⊢
 exact b.trans (by rw[←e2,←h,e1];exact a.symm)
theorem genusL_rel:genusL (relL s t)=genusL s:=by
 have hp:=relL_perm hs ht hl
 have hrl:=relL_length s t
 have h1:=genus_total hs he
 have h2:=genus_total hp (by rw[hrl];exact he)
 rw[rel_parts hs he ht hl hm,rel_vertices hs ht hl,hrl,phi_rel he ht hl hm,rel_vertices (phiL_perm hs he) ht (by rw[phiL_length];exact hl)] at h2
 omega
end
end
end Go.Proofs.YtklkgicjfnbndaaGreat
