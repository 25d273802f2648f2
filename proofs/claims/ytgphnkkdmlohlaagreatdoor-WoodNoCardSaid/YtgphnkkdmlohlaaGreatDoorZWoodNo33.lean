/- Package mixed: Add of one letter, Len; walk.Word, Tree. -/
import Derived.Test.YtgphnkkdmlohlaaGreatDoorZWoodNo17
import Derived.Test.YtgphnkkdmlohlaaGreatDoorZWoodNo03
import Derived.Test.YtgphnkkdmlohlaaGreatDoorZWoodNo11
import Derived.Test.YtgphnkkdmlohlaaGreatDoorZWoodNo15
import Derived.Test.YtgphnkkdmlohlaaGreatDoorZWoodNo32
namespace Go.Proofs.YtgphnkkdmlohlaaGreatDoor
section
open Go.RowKit
set_option linter.unusedVariables false
end
section
open Go.RowKit
set_option linter.unusedVariables false
set_option maxRecDepth 100000 in
set_option maxHeartbeats 1000000 in
theorem index_any (w:World) (a:Option Addr) (n cap:Nat) (xs:List Int) (y:Int) (hv:Ints w (.slice a n cap) xs) (hn:n≤8388608):
  Calls Tryz.prog 68 #[.slice a n cap,.int .i64 y] w fun e w'=>w'=w∧∃ r:Int,e=.returned (.int .i64 r)∧((r=-1∧∀ i,i<n→nth xs i≠y)∨∃ i:Nat,r=(i:Int)∧i<n∧nth xs i=y):=by
 have HL:=Lib.hid hv.length_eq
 have HV:=Lib.hid hv
 clear hv
 go_enter Tryz.func68,Tryz.ntmps68
 go_wp2_with fail
 go_loopg [8] n (fun g v8 wr=>∃ i:Nat,i≤n∧n-i≤g∧v8=.int .i64 (i:Int)∧wr=w∧∀ j,j<i→nth xs j≠y)
 case atStart=>exact⟨0,by omega,by omega,rfl,rfl,fun j hj=>by omega⟩
 case round=>
  obtain⟨i,hi,hg,rfl,rfl,hall⟩:=hrel
  have HA:=Lib.hid hall
  clear hall
  by_cases hil:i<n
  ·obtain⟨b,off,rfl,hc⟩:=HV.out.cell (i:=i) (by have:=HL.out;omega)
   obtain⟨x,hx⟩:∃ x,nth xs i=x:=⟨_,rfl⟩
   rw[hx] at hc
   have HX:=Lib.hid hx
   clear hx
   by_cases hxy:y=x
   ·subst hxy
    have hb:(y == y)=true:=by simp
    go_wp2_with fail
    go_ret
    exact⟨rfl,i,rfl,Or.inr ⟨i,rfl,hil,HX.out⟩⟩
   ·have hb:(y == x)=false:=by simp[hxy]
    go_wp2_with fail
    go_roundg (n-(i+1))
    case measure=>omega
    case rel=>exact⟨i+1,by omega,by omega,by go_num,rfl,fun j hj=>by
     by_cases e:j=i
     ·subst e;rw[HX.out];exact fun e=>hxy e.symm
     ·exact HA.out j (by omega)⟩
  ·obtain rfl:i=n:=by omega
   go_wp2_with fail
   go_ret
   exact⟨rfl,-1,rfl,Or.inl ⟨rfl,HA.out⟩⟩
set_option maxRecDepth 100000 in
set_option maxHeartbeats 1000000 in
theorem contains_any (w:World) (a:Option Addr) (n cap:Nat) (xs:List Int) (y:Int) (hv:Ints w (.slice a n cap) xs) (hn:n≤8388608):
  Calls Tryz.prog 111 #[.slice a n cap,.int .i64 y] w fun e w'=>w'=w∧e=.returned (.bool (decide (y∈xs))):=by
 have hl:=hv.length_eq
 have h:=index_any w a n cap xs y hv hn
 have hin:(∀ i,i<n→nth xs i≠y)→decide (y∈xs)=false:=fun h=>decide_eq_false fun hm=>by
  obtain⟨i,hi,e⟩:=List.getElem_of_mem hm
  exact h i (by omega) (by simp[nth,hi,e])
 have hout:∀ i:Nat,i<n→nth xs i=y→decide (y∈xs)=true:=fun i hi e=>decide_eq_true (by
  have hx:nth xs i=xs[i]:=by simp[nth,show i<xs.length by omega]
  rw[←e,hx]
  exact List.getElem_mem _)
 have HIN:=Lib.hid hin
 have HOUT:=Lib.hid hout
 clear hin hout hl
 go_enter Tryz.func111,Tryz.ntmps111
 go_wp2_with fail
 refine h.mono ?_
 rintro e w' ⟨rfl,r,rfl,⟨rfl,h⟩|⟨i,rfl,hi,he⟩⟩
 ·go_wp2_with fail
  go_ret
  exact⟨rfl,by rw[HIN.out h];rfl⟩
 ·go_wp2_with fail
  go_ret
  exact⟨rfl,by rw[HOUT.out i hi he];simp⟩
end
section
open Go.RowKit
set_option linter.unusedVariables false
set_option maxRecDepth 100000 in
set_option maxHeartbeats 1000000 in
theorem smax_any (w:World) (a:Option Addr) (n cap:Nat) (xs:List Int) (hv:Ints w (.slice a n cap) xs) (h1:1≤n) (hn:n≤8388608):
  Calls Tryz.prog 26 #[.slice a n cap] w fun e w'=>w'=w∧∃ m:Int,e=.returned (.int .i64 m)∧(∃ i,i<n∧nth xs i=m)∧∀ i,i<n→nth xs i≤m:=by
 have HL:=Lib.hid hv.length_eq
 have HV:=Lib.hid hv
 obtain⟨b,off,rfl,hc0⟩:=hv.cell (i:=0) (by have:=HL.out;omega)
 rw[Nat.add_zero] at hc0
 obtain⟨y0,hy0⟩:∃ y,nth xs 0=y:=⟨_,rfl⟩
 rw[hy0] at hc0
 have HY0:=Lib.hid hy0
 have hn1:decide ((n:Int)<1)=false:=decide_eq_false (by omega)
 have hn2:¬ n<1:=by omega
 clear hv hy0
 go_enter Tryz.func26,Tryz.ntmps26
 go_wp2_with fail
 go_loopg [3,4] n (fun g v3 v4 wr=>∃ (i:Nat) (m:Int),1≤i∧i≤n∧n-i≤g∧v3=.int .i64 m∧v4=.int .i64 (i:Int)∧wr=w∧(∃ j,j<n∧nth xs j=m)∧∀ j,j<i→nth xs j≤m)
 case atStart=>exact⟨1,y0,by omega,by omega,by omega,rfl,rfl,rfl,⟨0,by omega,HY0.out⟩,fun j hj=>by
  obtain rfl:j=0:=by omega
  rw[HY0.out];exact Int.le_refl _⟩
 case round=>
  obtain⟨i,m,hi1,hi,hg,rfl,rfl,rfl,hex,hall⟩:=hrel
  have HEx:=Lib.hid hex
  have HA:=Lib.hid hall
  clear hex hall
  by_cases hil:i<n
  ·obtain⟨b',off',e,hc⟩:=HV.out.cell (i:=i) (by have:=HL.out;omega)
   cases e
   obtain⟨x,hx⟩:∃ x,nth xs i=x:=⟨_,rfl⟩
   rw[hx] at hc
   have HX:=Lib.hid hx
   have hex:∃ j,j<n∧nth xs j=x:=⟨i,hil,hx⟩
   have HEy:=Lib.hid hex
   clear hx hex
   rcases Int.lt_or_le m x with hq|hq
   ·have hq2:¬ (x≤m):=by omega
    have hq3:¬ (x<m):=by omega
    go_wp2_with fail
    go_roundg (n-(i+1))
    case measure=>omega
    case rel=>exact⟨i+1,x,by omega,by omega,by omega,rfl,by go_num,rfl,HEy.out,fun j hj=>by
     by_cases e:j=i
     ·subst e;rw[HX.out];omega
     ·have:=HA.out j (by omega);omega⟩
   ·have hq2:¬ (m<x):=by omega
    go_wp2_with fail
    go_roundg (n-(i+1))
    case measure=>omega
    case rel=>exact⟨i+1,m,by omega,by omega,by omega,rfl,by go_num,rfl,HEx.out,fun j hj=>by
     by_cases e:j=i
     ·subst e;rw[HX.out];omega
     ·have:=HA.out j (by omega);omega⟩
  ·obtain rfl:n=i:=by omega
   go_wp2_with fail
   go_ret
   exact⟨rfl,m,rfl,HEx.out,HA.out⟩
end
section
set_option linter.unusedVariables false
def opL (L:List Int) (i:Nat):Bool:=decide (nth L i=1)
def mateL (op:Nat→Bool) (n i:Nat):List Int:=(List.range n).map fun j=>(((stk op i).2 j:Nat):Int)
def stackL (op:Nat→Bool) (i:Nat):List Int:=toI (stk op i).1.reverse
theorem mateL_length (op:Nat→Bool) (n i:Nat):(mateL op n i).length=n:=by simp[mateL]
theorem mateL_nth {op:Nat→Bool} {n i j:Nat} (h:j<n):nth (mateL op n i) j=(((stk op i).2 j:Nat):Int):=by
 simp[mateL,nth,h]
theorem mateL_zero (op:Nat→Bool) (n:Nat):mateL op n 0=List.replicate n 0:=by
 refine List.ext_getElem (by simp[mateL]) fun i h1 h2=>?_
 simp[mateL,stk]
theorem mateL_open {op:Nat→Bool} {n i:Nat} (h:op i=true):mateL op n (i+1)=mateL op n i:=by
 unfold mateL;rw[stk_open h]
theorem nth_set_if (xs:List Int) (i j:Nat) (y:Int) (hj:j<xs.length):nth (xs.set i y) j=if i=j then y else nth xs j:=by
 by_cases h:i=j
 ·subst h
  simp[nth,hj]
 ·simp[nth,h]
theorem mateL_close {op:Nat→Bool} {n i o:Nat} {r:List Nat} (h:op i=false) (hs:(stk op i).1=o :: r):mateL op n (i+1)=((mateL op n i).set i (o:Int)).set o (i:Int):=by
 refine ext_nth (by simp[mateL_length]) fun j hj=>?_
 rw[mateL_length] at hj
 rw[mateL_nth hj,stk_close h hs,nth_set_if _ _ _ _ (by rw[List.length_set,mateL_length];exact hj),nth_set_if _ _ _ _ (by rw[mateL_length];exact hj),mateL_nth hj]
 show (((if j=o then i else if j=i then o else (stk op i).2 j:Nat)):Int)=_
 by_cases h1:j=o
 ·rw[if_pos h1,if_pos h1.symm]
 ·have h1':¬ o=j:=fun e=>h1 e.symm
  by_cases h2:j=i
  ·subst h2;simp[h1,h1']
  ·have h2':¬ i=j:=fun e=>h2 e.symm
   simp[h1,h1',h2,h2']
theorem stackL_open {op:Nat→Bool} {i:Nat} (h:op i=true):stackL op (i+1)=stackL op i ++ [(i:Int)]:=by
 unfold stackL;rw[stk_open h];simp[toI]
theorem stackL_close {op:Nat→Bool} {i o:Nat} {r:List Nat} (h:op i=false) (hs:(stk op i).1=o :: r):stackL op i=stackL op (i+1) ++ [(o:Int)]:=by
 unfold stackL;rw[stk_close h hs,hs];simp[toI]
theorem stk_height (op:Nat→Bool):∀ i,(stk op i).1.length≤i
 | 0=>Nat.le_refl _
 | i+1=>by
  have h:=stk_height op i
  cases ho:op i with
  | true=>rw[stk_open ho];simp;omega
  | false=>
   cases hs:(stk op i).1 with
   | nil=>
    show ((if op i=true then _ else _:List Nat × (Nat→Nat))).1.length≤_
    rw[if_neg (by simp[ho]),hs]
    simp
   | cons o r=>
    rw[stk_close ho hs]
    rw[hs] at h
    simp at h ⊢
    omega
theorem stackL_length (op:Nat→Bool) (i:Nat):(stackL op i).length≤i:=by
 have:=stk_height op i
 simp[stackL,toI]
 exact this
end
section
open Go.RowKit
set_option linter.unusedVariables false
def RetMates (R:Reg) (w:World) (xs:List Int) (n:Nat) (e:Ending) (w':World):Prop:=
 ∃ a c v,e=.returned (.tuple #[.slice a n c,v])∧Ev R w R w'∧OwnI R w.heap.size 3 w' (.slice a n c) xs
theorem last_app (xs:List Int) (y:Int):nth (xs ++ [y]) xs.length=y:=by simp[nth]
theorem cell_new {w:World} {g:Nat} (hg:w.heap.size=g) (v:Value) (E:TypeId):(w.alloc (.cells #[v] E)).cell? ⟨g,0,none⟩=some v:=by
 subst hg;simp
structure M3 (R:Reg) (w0 w:World) (a6:Option Addr) (l6 c6:Nat) (S M Y:List Int) (g4 g5 n:Nat):Prop where
 ev:Ev R w0 R w
 st:OwnI R w0.heap.size 3 w (.slice a6 l6 c6) S
 m4:OwnI R w0.heap.size 3 w (.slice (some ⟨g4,0,none⟩) n n) M
 m5:OwnI R w0.heap.size 3 w (.slice (some ⟨g5,0,none⟩) n n) Y
 l4:M.length=n
 l5:Y.length=n
 ne:g4≠g5
 ds:∀ k,(Value.slice a6 l6 c6).ownBlock=some k→k≠g4∧k≠g5
theorem M3.put5 {R:Reg} {w0 w:World} {a6:Option Addr} {l6 c6:Nat} {S M Y:List Int} {g4 g5 n:Nat} (h:M3 R w0 w a6 l6 c6 S M Y g4 g5 n) {i:Nat} (hi:i<n) (y:Int):M3 R w0 (w.setCell ⟨g5,i,none⟩ (.int .i64 y)) a6 l6 c6 S M (Y.set i y) g4 g5 n where
 ev:=h.ev.setCell (h.m5.lt g5 rfl).1 (h.m5.2 g5 rfl) _
 st:=h.st.setCell (fun e=>(h.ds _ e).2 rfl) _
 m4:=h.m4.setCell (fun e=>h.ne (by simpa [Value.ownBlock] using e)) _
 m5:=h.m5.put h.l5 i hi y
 l4:=h.l4
 l5:=by rw[List.length_set];exact h.l5
 ne:=h.ne
 ds:=h.ds
theorem M3.put4 {R:Reg} {w0 w:World} {a6:Option Addr} {l6 c6:Nat} {S M Y:List Int} {g4 g5 n:Nat} (h:M3 R w0 w a6 l6 c6 S M Y g4 g5 n) {i:Nat} (hi:i<n) (y:Int):M3 R w0 (w.setCell ⟨g4,i,none⟩ (.int .i64 y)) a6 l6 c6 S (M.set i y) Y g4 g5 n where
 ev:=h.ev.setCell (h.m4.lt g4 rfl).1 (h.m4.2 g4 rfl) _
 st:=h.st.setCell (fun e=>(h.ds _ e).1 rfl) _
 m4:=h.m4.put h.l4 i hi y
 m5:=h.m5.setCell (fun e=>h.ne (by simpa [Value.ownBlock] using e.symm)) _
 l4:=by rw[List.length_set];exact h.l4
 l5:=h.l5
 ne:=h.ne
 ds:=h.ds
theorem M3.alloc {R:Reg} {w0 w:World} {a6:Option Addr} {l6 c6:Nat} {S M Y:List Int} {g4 g5 n:Nat} (h:M3 R w0 w a6 l6 c6 S M Y g4 g5 n) (o:Obj):M3 R w0 (w.alloc o) a6 l6 c6 S M Y g4 g5 n where
 ev:=h.ev.alloc o
 st:=h.st.alloc o
 m4:=h.m4.alloc o
 m5:=h.m5.alloc o
 l4:=h.l4
 l5:=h.l5
 ne:=h.ne
 ds:=h.ds
theorem M3.pop {R:Reg} {w0 w:World} {a6:Option Addr} {l6 c6:Nat} {S M Y:List Int} {g4 g5 n:Nat} {y:Int} (h:M3 R w0 w a6 l6 c6 (S ++ [y]) M Y g4 g5 n):M3 R w0 w a6 (l6-1) c6 S M Y g4 g5 n where
 ev:=h.ev
 st:=h.st.pop
 m4:=h.m4
 m5:=h.m5
 l4:=h.l4
 l5:=h.l5
 ne:=h.ne
 ds:=fun k e=>by
  cases a6 with
  | none=>cases e
  | some a=>exact h.ds k e
theorem M3.app {R:Reg} {w0 w w1:World} {a6:Option Addr} {l6 c6:Nat} {S S1 M Y:List Int} {g4 g5 n:Nat} (h:M3 R w0 w a6 l6 c6 S M Y g4 g5 n) {a8:Option Addr} {l8 c8:Nat} (ho:OwnI R w0.heap.size 3 w1 (.slice a8 l8 c8) S1) (hg:w.grownBy w1 (Value.slice a6 l6 c6).ownBlock) (hs:∀ k,(Value.slice a8 l8 c8).ownBlock=some k→(Value.slice a6 l6 c6).ownBlock=some k∨w.heap.size≤k):M3 R w0 w1 a8 l8 c8 S1 M Y g4 g5 n where
 ev:=h.ev.app h.st (Nat.le_refl _) hg
 st:=ho
 m4:=h.m4.kept hg (Or.inr fun e=>(h.ds _ e.symm).1 rfl)
 m5:=h.m5.kept hg (Or.inr fun e=>(h.ds _ e.symm).2 rfl)
 l4:=h.l4
 l5:=h.l5
 ne:=h.ne
 ds:=fun k e=>by
  rcases hs k e with e|e
  ·exact h.ds k e
  ·have h4:=(h.m4.lt g4 rfl).2
   have h5:=(h.m5.lt g5 rfl).2
   omega
theorem M3.at4 {R:Reg} {w0 w:World} {a6:Option Addr} {l6 c6:Nat} {S M Y:List Int} {g4 g5 n:Nat} (h:M3 R w0 w a6 l6 c6 S M Y g4 g5 n) {i:Nat} (hi:i<n):w.cell? ⟨g4,i,none⟩=some (.int .i64 (nth M i))∧w.frozen? ⟨g4,i,none⟩=false:=by
 obtain⟨_,e,_,_,h1,h2⟩:=h.m4.headAt h.l4 hi
 cases e
 exact⟨h1,h2⟩
theorem M3.at5 {R:Reg} {w0 w:World} {a6:Option Addr} {l6 c6:Nat} {S M Y:List Int} {g4 g5 n:Nat} (h:M3 R w0 w a6 l6 c6 S M Y g4 g5 n) {i:Nat} (hi:i<n):w.cell? ⟨g5,i,none⟩=some (.int .i64 (nth Y i))∧w.frozen? ⟨g5,i,none⟩=false:=by
 obtain⟨_,e,_,_,h1,h2⟩:=h.m5.headAt h.l5 hi
 cases e
 exact⟨h1,h2⟩
theorem M3.top {R:Reg} {w0 w:World} {a6:Option Addr} {l6 c6:Nat} {S M Y:List Int} {y:Int} {g4 g5 n:Nat} (h:M3 R w0 w a6 l6 c6 (S ++ [y]) M Y g4 g5 n):∃ m g6,l6=m+1∧S.length=m∧a6=some ⟨g6,0,none⟩∧m+1≤c6∧g6≠g4∧g6≠g5∧w.cell? ⟨g6,m,none⟩=some (.int .i64 y):=by
 have hl:=h.st.ints.length_eq
 have hl:l6=S.length+1:=by rw[hl];simp
 obtain⟨g,e,_,_,h1,_⟩:=h.st.headAt (i:=S.length) (by rw[hl];simp) (by omega)
 rw[last_app] at h1
 subst e
 obtain⟨a',cap',e,hc,_⟩:=h.st.ints
 cases e
 exact⟨S.length,g,hl,rfl,rfl,by simp at hc;omega,(h.ds g rfl).1,(h.ds g rfl).2,h1⟩
set_option maxRecDepth 100000 in
set_option maxHeartbeats 2000000 in
theorem r3mates_any (R:Reg) (w:World) (hI:Inv R w) (v:Value) (L:List Int) (hv:FreeI R w v L) (hn:L.length≤1000000) (op:Nat→Bool) (hop:∀ i,i<L.length→(op i=true↔nth L i=1)) (hne:∀ i,i<L.length→op i=false→(stk op i).1≠[]):
  Calls Tryz.prog 116 #[v] w (RetMates R w (mateL op L.length L.length) L.length):=by
 obtain⟨a0,cap0,rfl,hv⟩:=hv.open
 obtain⟨n,hl⟩:∃ n,L.length=n:=⟨_,rfl⟩
 rw[hl] at hv hop hne hn ⊢
 have HL:=Lib.hid hl
 have HV:=Lib.hid hv
 have HOp:=Lib.hid hop
 have HNe:=Lib.hid hne
 have HI:=Lib.hid hI
 obtain⟨i0,hi,hz0,hz1,hz2⟩:=info_parts int_info
 clear hl hv hop hI hne
 go_enter Tryz.func116,Tryz.ntmps116
 go_wp2_with fail
 obtain⟨o1,ho1⟩:∃ o,Obj.cells (madeCells #[Value.int .i64 0] (n*1)) 3=o:=⟨_,rfl⟩
 have hms1:=make_eq (n:=n) Tryz.underlying25 hi hz0 hz1 (by rw[hz2];omega) (by unfold maxLen;omega)
 have HO1:=Lib.hid (fun (W:World) hI hB=>rowI_made (R:=R) (W:=W) (B:=w.heap.size) (n:=n) hI hB (by unfold maxLen;omega))
 simp only[Value.cells,ho1] at hms1 HO1
 clear ho1
 have HE0:=Lib.hid (Ev.refl HI.out)
 go_cut [4,5] (fun s4 s5 wx=>∃ g4 g5,s4=.slice (some ⟨g4,0,none⟩) n n∧s5=.slice (some ⟨g5,0,none⟩) n n∧g4≠g5∧Ev R w R wx∧OwnI R w.heap.size 3 wx (.slice (some ⟨g4,0,none⟩) n n) (List.replicate n 0)∧OwnI R w.heap.size 3 wx (.slice (some ⟨g5,0,none⟩) n n) (List.replicate n 0))
 case first=>
  go_region_with fail
  all_goals (go_wp2_with fail;go_meet)
  all_goals first
   |(refine⟨_,_,rfl,rfl,?_,((HE0.out.alloc o1).alloc o1).drew,((HO1.out _ HE0.out.inv HE0.out.size).alloc o1).drew,?_⟩
     ·simp
     ·have:=(HO1.out _ (HE0.out.alloc o1).inv (HE0.out.alloc o1).size).drew
      simpa using this)
   |(refine⟨_,_,rfl,rfl,?_,((HE0.out.alloc o1).alloc o1).drew,?_,((HO1.out _ HE0.out.inv HE0.out.size).alloc o1).drew⟩
     ·simp
     ·have:=(HO1.out _ (HE0.out.alloc o1).inv (HE0.out.alloc o1).size).drew
      simpa using this)
 case rest=>
  obtain⟨g4,g5,rfl,rfl,hne45,he,ho4,ho5⟩:=hcut
  have HM0:=Lib.hid (M3.mk (a6:=none) (l6:=0) (c6:=0) he (OwnI.nil R _ _ _) ho4 ho5 (by simp) (by simp) hne45 fun k h=>by cases h)
  clear he ho4 ho5 hms1 HO1 HE0 hne45
  go_wp2_with fail
  go_loopg [6,18] n (fun g v6 v18 wr=>∃ (i:Nat) (a6:Option Addr) (l6 c6:Nat) (Y:List Int),i≤n∧n-i≤g∧v18=.int .i64 (i:Int)∧v6=.slice a6 l6 c6∧M3 R w wr a6 l6 c6 (stackL op i) (mateL op n i) Y g4 g5 n)
  case atStart=>exact⟨0,none,0,0,List.replicate n 0,Nat.zero_le _,by omega,rfl,rfl,by rw[mateL_zero];exact HM0.out⟩
  case round=>
   obtain⟨i,a6,l6,c6,Y,hi,hg,rfl,rfl,hm⟩:=hrel
   have HM:=Lib.hid hm
   clear hm
   by_cases hil:i<n
   ·obtain⟨bS,oS,rfl,hc⟩:=(HV.out.ev HM.out.ev).1.cell (i:=i) (by rw[HL.out];exact hil)
    obtain⟨hc5,hz5⟩:=HM.out.at5 hil
    have hop:=HOp.out i hil
    obtain⟨k,hkx⟩:∃ k,nth L i=k:=⟨_,rfl⟩
    rw[hkx] at hc hop
    clear hkx
    have hsl:=stackL_length op i
    by_cases hk:k=1
    ·subst hk
     have ho:=hop.2 rfl
     have hst:=stackL_open ho
     have hmt:=mateL_open (n:=n) ho
     have HST:=Lib.hid hst
     have HMT:=Lib.hid hmt
     have HSL:=Lib.hid hsl
     clear hop ho hst hmt hsl
     rcases List.eq_nil_or_concat (stackL op i) with hs6|⟨S,y,hs6⟩
     ·have hl6:l6=0:=by rw[HM.out.st.ints.length_eq,hs6];rfl
      subst hl6
      clear hs6
      have HMa:=Lib.hid ((HM.out.put5 hil (-1)).alloc (.cells #[.int .i64 (i:Int)] 3))
      go_wp2_with (at_builtin;refine wpList_app_int (R:=R) (B:=w.heap.size) rfl _ _ rfl HMa.out.st rfl ⟨wr.heap.size,0,none⟩ 1 (i:Int) ?a0 ?a1 ?a2 ?a3 ?a4 ?_)
      case a0=>first|rfl|simp
      case a1=>exact cell_new (by simp) _ _
      case a2=>have:=HSL.out;omega
      case a3=>have:=HM.out.ev.size;simp;omega
      case a4=>exact fun q hq=>HMa.out.ev.inv.none_of_ge (by simp at hq ⊢;omega)
      intro v8 w6 ho8 hg6 hs6
      obtain⟨a8,c8,rfl,_⟩:=ho8.ints.open
      obtain⟨l8,hl8⟩:∃ l,(stackL op i ++ [(i:Int)]).length=l:=⟨_,rfl⟩
      rw[hl8] at ho8 hs6
      try rw[hl8]
      clear hl8
      have HM8:=Lib.hid (HMa.out.app ho8 hg6 fun k e=>by have:=hs6 k e;simpa using this)
      clear ho8 hg6 hs6
      go_wp2_with fail
      go_roundg (n-(i+1))
      case measure=>omega
      case rel=>exact⟨i+1,a8,l8,c8,(Y.set i (-1)),by omega,by omega,by go_num,rfl,by rw[HST.out,HMT.out];exact HM8.out⟩
     ·rw[List.concat_eq_append] at hs6
      have HMs:=HM.out
      rw[hs6] at HMs
      obtain⟨m,g6,rfl,hm6,rfl,hcap,h64,h65,hc6⟩:=HMs.top
      have HMa:=Lib.hid (((HM.out.put5 hil (-1)).put5 hil y).alloc (.cells #[.int .i64 (i:Int)] 3))
      clear HMs
      have hm1:m≤1000000:=by have:=HSL.out;rw[hs6] at this;simp at this;omega
      clear hs6
      have hw:IntKind.i64.wrap ((m:Int)+1-1)=(m:Int):=by
       rw[show ((m:Int)+1-1)=(m:Int) by omega];exact IntWalk.i64_in _ (by omega)
      go_wp2_with (at_builtin;refine wpList_app_int (R:=R) (B:=w.heap.size) rfl _ _ rfl HMa.out.st rfl ⟨wr.heap.size,0,none⟩ 1 (i:Int) ?a0 ?a1 ?a2 ?a3 ?a4 ?_)
      case a0=>first|rfl|simp
      case a1=>exact cell_new (by simp) _ _
      case a2=>have:=HSL.out;omega
      case a3=>have:=HM.out.ev.size;simp;omega
      case a4=>exact fun q hq=>HMa.out.ev.inv.none_of_ge (by simp at hq ⊢;omega)
      intro v8 w6 ho8 hg6 hs6
      obtain⟨a8,c8,rfl,_⟩:=ho8.ints.open
      obtain⟨l8,hl8⟩:∃ l,(stackL op i ++ [(i:Int)]).length=l:=⟨_,rfl⟩
      rw[hl8] at ho8 hs6
      try rw[hl8]
      clear hl8
      have HM8:=Lib.hid (HMa.out.app ho8 hg6 fun k e=>by have:=hs6 k e;simpa using this)
      clear ho8 hg6 hs6
      go_wp2_with fail
      go_roundg (n-(i+1))
      case measure=>omega
      case rel=>exact⟨i+1,a8,l8,c8,((Y.set i (-1)).set i y),by omega,by omega,by go_num,rfl,by rw[HST.out,HMT.out];exact HM8.out⟩
    ·have ho:op i=false:=by
      cases h:op i with
      | true=>exact absurd (hop.1 h) hk
      | false=>rfl
     obtain⟨o,r,hs⟩:∃ o r,(stk op i).1=o :: r:=by
      cases h:(stk op i).1 with
      | nil=>exact absurd h (HNe.out i hil ho)
      | cons o r=>exact⟨o,r,rfl⟩
     have hoi:o<i:=(stk_desc (op:=op) i).2 o (by rw[hs];exact List.mem_cons_self)
     have hon:o<n:=by omega
     have hst:=stackL_close ho hs
     have HMT:=Lib.hid (mateL_close (n:=n) ho hs)
     have HMs:=HM.out
     rw[hst] at HMs
     obtain⟨m,g6,rfl,hm6,rfl,hcap,h64,h65,hc6⟩:=HMs.top
     have hm1:m≤1000000:=by rw[hst] at hsl;simp at hsl;omega
     have HMp:=Lib.hid (((HMs.pop.put4 hil (o:Int)).put4 hon (i:Int)).put5 hil (nth Y o))
     obtain⟨hc4i,hz4i⟩:=HM.out.at4 hil
     obtain⟨hc4o,hz4o⟩:=HM.out.at4 hon
     obtain⟨hc5o,hz5o⟩:=HM.out.at5 hon
     have hne4:=HM.out.ne
     have hio:¬ i=o:=by omega
     have hw:IntKind.i64.wrap ((m:Int)+1-1)=(m:Int):=by
      rw[show ((m:Int)+1-1)=(m:Int) by omega];exact IntWalk.i64_in _ (by omega)
     clear HMs hst hs ho hop hsl
     go_wp2_with fail
     go_roundg (n-(i+1))
     case measure=>omega
     case rel=>exact⟨i+1,_,_,_,Y.set i (nth Y o),by omega,by omega,by go_num,rfl,by rw[HMT.out];exact HMp.out⟩
   ·obtain rfl:i=n:=by omega
    go_wp2_with fail
    go_ret2
    exact⟨_,_,_,rfl,HM.out.ev,HM.out.m4⟩
end
section
open Go.RowKit
set_option linter.unusedVariables false
def plS (L:List Int) (s:Nat):List Nat:=srt (sS L s) L.length
def stS (L:List Int) (s:Nat):Nat→Nat:=(stk (opL (ownL L s L.length)) (plS L s).length).2
def DoneS (L:List Int) (s i:Nat) (X:List Int):Prop:=∀ j,j<i→nth X ((plS L s).getD j 0)=(((plS L s).getD (stS L s j) 0:Nat):Int)
theorem plS_lt {L:List Int} {s i:Nat} (h:i<(plS L s).length):(plS L s).getD i 0<L.length:=(srt_get h).1
theorem DoneS.step {L X:List Int} {s i:Nat} (h:DoneS L s i X) (hX:X.length=L.length) (hi:i<(plS L s).length):DoneS L s (i+1) (X.set ((plS L s).getD i 0) (((plS L s).getD (stS L s i) 0:Nat):Int)):=by
 intro j hj
 rw[nth_set_if _ _ _ _ (by rw[hX];exact plS_lt (by omega))]
 by_cases e:j=i
 ·subst e;rw[if_pos rfl]
 ·rw[if_neg (fun e2=>e (srt_inj (S:=sS L s) (P:=L.length) (by show j<(plS L s).length;omega) hi e2.symm))]
  exact h j (by omega)
theorem DoneS.other {L X:List Int} {s t i:Nat} {y:Int} (h:DoneS L t (plS L t).length X) (hX:X.length=L.length) (hi:i<(plS L s).length) (hne:t≠s):DoneS L t (plS L t).length (X.set ((plS L s).getD i 0) y):=by
 intro j hj
 rw[nth_set_if _ _ _ _ (by rw[hX];exact plS_lt hj),if_neg,h j hj]
 intro e
 have h1:=(srt_get hj).2
 have h2:=(srt_get hi).2
 rw[show (srt (sS L s) L.length).getD i 0=(srt (sS L t) L.length).getD j 0 from e] at h2
 simp only[sS,decide_eq_true_eq] at h1 h2
 omega
def RetMs (R:Reg) (w:World) (L:List Int) (e:Ending) (w':World):Prop:=
 ∃ a c X,e=.returned (.slice a L.length c)∧Ev R w R w'∧X.length=L.length∧(∀ s,s<2→DoneS L s (plS L s).length X)∧OwnI R w.heap.size 3 w' (.slice a L.length c) X
set_option maxRecDepth 100000 in
set_option maxHeartbeats 2000000 in
theorem r4mates_any (R:Reg) (w:World) (hI:Inv R w) (v:Value) (L:List Int) (hv:FreeI R w v L) (hk:∀ i,i<L.length→0≤nth L i∧nth L i≤3) (hn:L.length≤1000000) (u:Nat→Nat→Nat) (hp:∀ s,s<2→Pairing (plS L s).length (opL (ownL L s L.length)) (u s)):
  Calls Tryz.prog 102 #[v] w (RetMs R w L):=by
 obtain⟨a0,cap0,rfl,hv⟩:=hv.open
 obtain⟨n,hl⟩:∃ n,L.length=n:=⟨_,rfl⟩
 have HL:=Lib.hid hl
 have HV:=Lib.hid hv
 have HK:=Lib.hid hk
 have HP:=Lib.hid hp
 have HI:=Lib.hid hI
 obtain⟨i0,hi,hz0,hz1,hz2⟩:=info_parts int_info
 have hSo:=fun (w':World) (he:Ev R w R w') s hs=>rsort_any R w' he.inv _ L (hv.ev he) hk hn s hs
 rw[hl] at hSo ⊢
 have HSo:=Lib.hid hSo
 rw[hl] at hn
 clear hl hv hk hI hp hSo
 go_enter Tryz.func102,Tryz.ntmps102
 go_wp2_with (refine wpList_make_full _ rfl _ _ 25 rfl w.heap.size 3 i0 (.int .i64 0) 1 Tryz.underlying25 hi hz0 hz1 .i64 .i64 (n:Int) (n:Int) n rfl rfl rfl rfl ?q1 ?q2 (Nat.le_refl _) ?_)
 case q1=>rw[hz2];omega
 case q2=>unfold maxLen;omega
 intro w1 ho1 hg1
 have hown:OwnI R w.heap.size 3 w1 (.slice (some ⟨w.heap.size,0,none⟩) n n) (List.replicate n 0):=OwnI.made HI.out ho1
 have he1:Ev R w R w1:=(Ev.refl HI.out).grown hg1 (by simp)
 have HO1:=Lib.hid hown
 have HE1:=Lib.hid he1
 clear ho1 hg1 hown he1
 go_wp2_with fail
 obtain⟨g3,hg3⟩:∃ g,w.heap.size=g:=⟨_,rfl⟩
 rw[hg3] at HO1 ⊢
 have HG3:=Lib.hid hg3
 go_loopg [4] 2 (fun g v4 wr=>∃ (s:Nat) (X:List Int),s≤2∧2-s≤g∧v4=.int .i64 (s:Int)∧X.length=n∧(∀ t,t<s→DoneS L t (plS L t).length X)∧Ev R w R wr∧OwnI R g3 3 wr (.slice (some ⟨g3,0,none⟩) n n) X)
 case atStart=>exact⟨0,List.replicate n 0,Nat.zero_le _,by omega,rfl,by simp,fun t ht=>by omega,HE1.out,HO1.out⟩
 case round=>
  obtain⟨s,X,hs,hg,rfl,hX,hd,he,ho⟩:=hrel
  have HE:=Lib.hid he
  have HO:=Lib.hid ho
  have HX:=Lib.hid hX
  have HD:=Lib.hid hd
  clear he ho hX hd
  by_cases hs2:s<2
  ·have hs01:((s:Nat):Int)=0∨((s:Nat):Int)=1:=by omega
   have hpl:(plS L s).length=(srt (sS L s) n).length:=by unfold plS;rw[HL.out]
   have hol:(ownL L s n).length=(plS L s).length:=by rw[ownL_length,hpl]
   have hal:(atL L s n).length=(plS L s).length:=by rw[atL_length,hpl]
   have hat:∀ i,nth (atL L s n) i=(((plS L s).getD i 0:Nat):Int):=fun i=>by
    unfold atL plS;rw[HL.out,toI_nth];rfl
   have hql:(plS L s).length≤n:=by rw[hpl];exact srt_le _ _
   have hpr:=HP.out s hs2
   rw[HL.out] at hpr
   have hst:stS L s=(stk (opL (ownL L s n)) (plS L s).length).2:=by unfold stS;rw[HL.out]
   have hplt:∀ i,i<(plS L s).length→(plS L s).getD i 0<n:=fun i h=>by have:=plS_lt h;rw[HL.out] at this;exact this
   have hstp:=fun (i:Nat) (X:List Int) (h:DoneS L s i X) (hX:X.length=n)=>h.step (by rw[hX,HL.out])
   have hoth:=fun (t i:Nat) (y:Int) (X:List Int) (h:DoneS L t (plS L t).length X) (hX:X.length=n) hi hne=>h.other (s:=s) (i:=i) (y:=y) (by rw[hX,HL.out]) hi hne
   obtain⟨q,hq⟩:∃ q,(plS L s).length=q:=⟨_,rfl⟩
   rw[hq] at hol hal hql hpr hst hplt hstp hoth
   have hbd:=stk_bd hpr
   have hne:=stk_ne hpr
   rw[←hst] at hbd
   have hmt:∀ i,i<q→nth (mateL (opL (ownL L s n)) q q) i=((stS L s i:Nat):Int):=fun i h=>by rw[mateL_nth h,hst]
   have HQ:=Lib.hid hq
   have HOL:=Lib.hid hol
   have HAL:=Lib.hid hal
   have HAT:=Lib.hid hat
   have HNE:=Lib.hid hne
   have HBD:=Lib.hid hbd
   have HMV:=Lib.hid hmt
   have HPL:=Lib.hid hplt
   have HSP:=Lib.hid hstp
   have HOT:=Lib.hid hoth
   clear hq hpl hol hal hat hpr hst hbd hne hmt hplt hstp hoth
   go_wp2_with fail
   refine (HSo.out _ HE.out (s:Int) hs01).mono ?_
   rintro e w2 ⟨aO,aA,cO,cA,rfl,he2,hoO,hoA⟩
   rw[HOL.out] at hoO ⊢
   rw[HAL.out] at hoA ⊢
   have HE2:=Lib.hid (HE.out.trans he2)
   have HO2:=Lib.hid (HO.out.ev he2)
   have HOO:=Lib.hid hoO
   have HOA:=Lib.hid hoA
   clear he2 hoO hoA
   go_wp2_with fail
   have hm:=r3mates_any R w2 HE2.out.inv _ (ownL L s n) HOO.out.free (by rw[HOL.out];omega) (opL (ownL L s n)) (fun i _=>by simp[opL]) (by rw[HOL.out];exact HNE.out)
   rw[HOL.out] at hm
   refine hm.mono ?_
   rintro e w3 ⟨aM,cM,vR,rfl,he3,hoM⟩
   have HE3:=Lib.hid (HE2.out.trans he3)
   have HO3:=Lib.hid (HO2.out.ev he3)
   have HOA3:=Lib.hid (HOA.out.ev he3)
   have HOM:=Lib.hid hoM
   have hg3r:g3<wr.heap.size:=(HO.out.lt g3 rfl).2
   have hg32:g3<w2.heap.size:=(HO2.out.lt g3 rfl).2
   clear hm he3 hoM HOA HOO
   have HD3:Hid (DoneS L s 0 X):=Lib.hid fun j hj=>by omega
   go_wp2_with fail
   go_loopg [31] q (fun g v31 wi=>∃ (i:Nat) (X:List Int),i≤q∧q-i≤g∧v31=.int .i64 (i:Int)∧X.length=n∧DoneS L s i X∧(∀ t,t<s→DoneS L t (plS L t).length X)∧Ev R w R wi∧OwnI R g3 3 wi (.slice (some ⟨g3,0,none⟩) n n) X∧OwnI R wr.heap.size 3 wi (.slice aA q cA) (atL L s n)∧OwnI R w2.heap.size 3 wi (.slice aM q cM) (mateL (opL (ownL L s n)) q q))
   case atStart=>exact⟨0,X,Nat.zero_le _,by omega,rfl,HX.out,HD3.out,HD.out,HE3.out,HO3.out,HOA3.out,HOM.out⟩
   case round=>
    clear HD3 HD HX
    obtain⟨i,X,hiq,hg,rfl,hX,hD3,hD,he,ho,hoA,hoM⟩:=hrel
    have HX:=Lib.hid hX
    have HDt:=Lib.hid hD
    have HDi:=Lib.hid hD3
    have HEi:=Lib.hid he
    have HOi:=Lib.hid ho
    have HAi:=Lib.hid hoA
    have HMi:=Lib.hid hoM
    clear hX hD3 hD he ho hoA hoM
    by_cases hil:i<q
    ·obtain⟨gA,rfl,hgA,_,hcA,_⟩:=HAi.out.headAt HAL.out hil
     have hb:=HBD.out i hil
     obtain⟨_,eA,_,_,hcA2,_⟩:=HAi.out.headAt HAL.out hb
     cases eA
     obtain⟨gM,rfl,hgM,_,hcM,_⟩:=HMi.out.headAt (mateL_length _ _ _) hil
     rw[HAT.out] at hcA hcA2
     rw[HMV.out i hil] at hcM
     have hk1:=HPL.out i hil
     have HS1:=Lib.hid (HSP.out i X HDi.out HX.out hil)
     have HT1:=Lib.hid (fun t ht=>HOT.out t i (((plS L s).getD (stS L s i) 0:Nat):Int) X (HDt.out t ht) HX.out hil (by omega))
     obtain⟨k,hkk⟩:∃ k,(plS L s).getD i 0=k:=⟨_,rfl⟩
     obtain⟨m,hmm⟩:∃ k,stS L s i=k:=⟨_,rfl⟩
     rw[hmm] at hcA2 hcM hb HS1 HT1
     obtain⟨y,hyy⟩:∃ k,(plS L s).getD m 0=k:=⟨_,rfl⟩
     rw[hkk] at hcA hk1 HS1 HT1
     rw[hyy] at hcA2 HS1 HT1
     clear hkk hmm hyy
     obtain⟨_,e3,hB3,hR3,hc3,hz3⟩:=HOi.out.headAt HX.out hk1
     cases e3
     go_wp2_with fail
     go_roundg (q-(i+1))
     case measure=>omega
     case rel=>exact⟨i+1,X.set k (y:Int),by omega,by omega,by go_num,by rw[List.length_set];exact HX.out,HS1.out,HT1.out,HEi.out.setCell (by show w.heap.size≤g3;rw[HG3.out];exact Nat.le_refl _) hR3 _,HOi.out.put HX.out k hk1 _,HAi.out.setCell (fun e=>by simp[Value.ownBlock] at e;omega) _,HMi.out.setCell (fun e=>by simp[Value.ownBlock] at e;omega) _⟩
    ·obtain rfl:i=q:=by omega
     go_wp2_with fail
     go_roundg (2-(s+1))
     case measure=>omega
     case rel=>
      refine⟨s+1,X,by omega,by omega,by go_num,HX.out,fun t ht=>?_,HEi.out,HOi.out⟩
      by_cases e:t=s
      ·subst e
       rw[HQ.out]
       exact HDi.out
      ·exact HDt.out t (by omega)
  ·obtain rfl:s=2:=by omega
   go_wp2_with fail
   go_ret
   refine⟨_,_,X,by rw[HL.out];rfl,HE.out,by rw[HX.out,HL.out],fun t ht=>HD.out t ht,?_⟩
   rw[HL.out,HG3.out]
   exact HO.out
end
section
set_option linter.unusedVariables false
structure StkI (op:Nat→Bool) (i:Nat):Prop where
 op1:∀ x,x∈(stk op i).1→op x=true∧x<i
 nd:(stk op i).1.Nodup
 pair:∀ j,j<i→j∉(stk op i).1→(stk op i).2 j<i∧(stk op i).2 j∉(stk op i).1∧(stk op i).2 ((stk op i).2 j)=j∧(stk op i).2 j≠j∧(op j=true↔j<(stk op i).2 j)
theorem StkI.all {op:Nat→Bool} {q:Nat} (hne:∀ k,k<q→op k=false→(stk op k).1≠[]):∀ i,i≤q→StkI op i
 | 0,_=>⟨fun x h=>(by cases h),List.nodup_nil,fun j h=>(by omega)⟩
 | i+1,hi=>by
  have ih:=StkI.all hne i (by omega)
  cases ho:op i with
  | true=>
   have e:=stk_open (op:=op) ho
   refine⟨fun x hx=>?_,?_,fun j hj hn=>?_⟩
   ·rw[e] at hx
    rcases List.mem_cons.1 hx with rfl|hx
    ·exact⟨ho,by omega⟩
    ·have:=ih.op1 x hx;exact⟨this.1,by omega⟩
   ·rw[e]
    exact List.nodup_cons.2 ⟨fun h=>by have:=(ih.op1 i h).2;omega,ih.nd⟩
   ·rw[e] at hn ⊢
    simp only[List.mem_cons,not_or] at hn ⊢
    obtain⟨a1,a2,a3⟩:=ih.pair j (by omega) hn.2
    exact⟨by omega,⟨by omega,a2⟩,a3⟩
  | false=>
   obtain⟨o,r,hs⟩:∃ o r,(stk op i).1=o :: r:=by
    cases h:(stk op i).1 with
    | nil=>exact absurd h (hne i (by omega) ho)
    | cons o r=>exact⟨o,r,rfl⟩
   have e:=stk_close (op:=op) ho hs
   have ho1:=ih.op1 o (by rw[hs];exact List.mem_cons_self)
   have hnd:=ih.nd
   rw[hs] at hnd
   obtain⟨hor,hrn⟩:=List.nodup_cons.1 hnd
   have hio:i≠o:=by omega
   refine⟨fun x hx=>?_,?_,fun j hj hn=>?_⟩
   ·rw[e] at hx
    have:=ih.op1 x (by rw[hs];exact List.mem_cons_of_mem _ hx)
    exact⟨this.1,by omega⟩
   ·rw[e];exact hrn
   ·rw[e] at hn ⊢
    simp only at hn ⊢
    by_cases hji:j=i
    ·subst hji
     rw[updN_other _ _ _ hio,updN_same,updN_same]
     refine⟨by omega,hor,rfl,fun h=>hio h.symm,?_⟩
     rw[ho]
     constructor
     ·intro h;cases h
     ·intro h;omega
    ·by_cases hjo:j=o
     ·subst hjo
      rw[updN_same,updN_other _ _ _ hio,updN_same]
      refine⟨by omega,fun h=>?_,rfl,hio,?_⟩
      ·have:=(ih.op1 i (by rw[hs];exact List.mem_cons_of_mem _ h)).2;omega
      ·exact⟨fun _=>ho1.2,fun _=>ho1.1⟩
     ·have hn':j∉(stk op i).1:=by rw[hs];simp only[List.mem_cons,not_or];exact⟨hjo,hn⟩
      obtain⟨a1,a2,a3,a4,a5⟩:=ih.pair j (by omega) hn'
      rw[hs] at a2
      simp only[List.mem_cons,not_or] at a2
      rw[updN_other _ _ _ hjo,updN_other _ _ _ hji,updN_other _ _ _ a2.1,updN_other _ _ _ (by omega)]
      exact⟨by omega,a2.2,a3,a4,a5⟩
theorem stk_pairing {op:Nat→Bool} {q:Nat} (hne:∀ k,k<q→op k=false→(stk op k).1≠[]) (h0:(stk op q).1=[]):Pairing q op (stk op q).2:=by
 have h:=(StkI.all hne q (Nat.le_refl _)).pair
 have hn:∀ i,i∉(stk op q).1:=fun i=>by rw[h0];simp
 exact⟨fun i hi=>(h i hi (hn i)).1,fun i hi=>(h i hi (hn i)).2.2.1,fun i hi=>(h i hi (hn i)).2.2.2.1,fun i hi=>(h i hi (hn i)).2.2.2.2⟩
def anyK (p:Nat) (bs:List Nat) (i:Nat):Int:=
 let s:=anyS p bs i
 if (s.2.1+s.2.2<2*p-i∧anyB bs i % 2=0)∨s.2.1+s.2.2=0 then (if anyB bs i / 2 % 2=0 then 0 else 2)
 else if 0<s.2.1∧(anyB bs i / 4 % 2=0∨s.2.2=0) then 1 else 3
theorem anyK_step (p:Nat) (bs:List Nat) (i:Nat):(anyS p bs (i+1)).1=(anyS p bs i).1 ++ [anyK p bs i] ∧
  ((anyK p bs i=0∧(anyS p bs (i+1)).2=((anyS p bs i).2.1+1,(anyS p bs i).2.2))∨(anyK p bs i=2∧(anyS p bs (i+1)).2=((anyS p bs i).2.1,(anyS p bs i).2.2+1)) ∨
   (anyK p bs i=1∧0<(anyS p bs i).2.1∧(anyS p bs (i+1)).2=((anyS p bs i).2.1-1,(anyS p bs i).2.2))∨(anyK p bs i=3∧0<(anyS p bs i).2.2∧(anyS p bs (i+1)).2=((anyS p bs i).2.1,(anyS p bs i).2.2-1))):=by
 have e:anyS p bs (i+1)=anyStep p bs (anyS p bs i) i:=rfl
 rw[e]
 unfold anyStep anyK
 obtain⟨s,hs⟩:∃ s,anyS p bs i=s:=⟨_,rfl⟩
 rw[hs]
 dsimp only
 split
 ·split
  ·exact⟨rfl,Or.inl ⟨rfl,rfl⟩⟩
  ·exact⟨rfl,Or.inr (Or.inl ⟨rfl,rfl⟩)⟩
 ·split
  ·rename_i h1 h2
   exact⟨rfl,Or.inr (Or.inr (Or.inl ⟨rfl,h2.1,rfl⟩))⟩
  ·rename_i h1 h2
   exact⟨rfl,Or.inr (Or.inr (Or.inr ⟨rfl,by omega,rfl⟩))⟩
theorem anyS_map (p:Nat) (bs:List Nat):∀ i,(anyS p bs i).1=(List.range i).map (anyK p bs)
 | 0=>rfl
 | i+1=>by rw[(anyK_step p bs i).1,anyS_map p bs i,List.range_succ,List.map_append];rfl
theorem anyW_nth {p:Nat} {bs:List Nat} {i:Nat} (h:i<2*p):nth (anyW p bs) i=anyK p bs i:=by
 unfold anyW
 rw[anyS_map]
 simp[nth,h]
theorem anyK_range (p:Nat) (bs:List Nat) (i:Nat):0≤anyK p bs i∧anyK p bs i≤3:=by
 rcases (anyK_step p bs i).2 with ⟨h,_⟩|⟨h,_⟩|⟨h,_⟩|⟨h,_⟩ <;> rw[h] <;> decide
def hgt (s:Nat) (x:List Int × Nat × Nat):Nat:=if s=0 then x.2.1 else x.2.2
section
variable {p : Nat} {bs : List Nat} {s : Nat} (hs : s < 2)
theorem own_nth {i:Nat} (hi:i<2*p) (h:sS (anyW p bs) s i=true):nth (ownL (anyW p bs) s (2*p)) (srt (sS (anyW p bs) s) i).length=1-anyK p bs i % 2:=by
 have hmem:i∈srt (sS (anyW p bs) s) (2*p):=mem_srt.2 ⟨hi,h⟩
 have hsplit:srt (sS (anyW p bs) s) (2*p)=srt (sS (anyW p bs) s) i ++ i :: ((List.range (2*p)).drop (i+1)).filter (sS (anyW p bs) s):=by
  unfold srt
  have e1:List.range (2*p)=List.range i ++ i :: (List.range (2*p)).drop (i+1):=by
   have h1:=List.take_append_drop i (List.range (2*p))
   rw[List.take_range,Nat.min_eq_left (by omega),List.drop_eq_getElem_cons (by simpa using hi)] at h1
   rw[List.getElem_range] at h1
   exact h1.symm
  rw[e1,List.filter_append,List.filter_cons,if_pos h]
  rw[←e1]
 unfold ownL
 rw[hsplit,List.map_append]
 have hl:(srt (sS (anyW p bs) s) i).length=((srt (sS (anyW p bs) s) i).map fun j=>1-nth (anyW p bs) j % 2).length:=by simp
 rw[hl]
 simp[nth]
 have:=anyW_nth (bs:=bs) hi
 unfold nth at this
 rw[List.getD_eq_getElem?_getD] at this
 rw[this]
include hs
theorem any_stk:∀ i,i≤2*p→(∀ k,k<(srt (sS (anyW p bs) s) i).length→opL (ownL (anyW p bs) s (2*p)) k=false→(stk (opL (ownL (anyW p bs) s (2*p))) k).1≠[]) ∧
  (stk (opL (ownL (anyW p bs) s (2*p))) (srt (sS (anyW p bs) s) i).length).1.length=hgt s (anyS p bs i)
 | 0,_=>⟨fun k hk=>by simp[srt] at hk,by simp[srt,stk,hgt,anyS]⟩
 | i+1,hi=>by
  obtain⟨ih1,ih2⟩:=any_stk i (by omega)
  have hk:=anyK_step p bs i
  have hn:=anyW_nth (p:=p) (bs:=bs) (i:=i) (by omega)
  rw[srt_succ]
  obtain⟨op,hop⟩:∃ op,opL (ownL (anyW p bs) s (2*p))=op:=⟨_,rfl⟩
  by_cases hS:sS (anyW p bs) s i=true
  ·have hon:=own_nth (p:=p) (bs:=bs) (i:=i) (by omega) hS
   have hopi:op (srt (sS (anyW p bs) s) i).length=decide (1-anyK p bs i % 2=1):=by rw[←hop];unfold opL;rw[hon]
   have hsk:anyK p bs i / 2=(s:Int):=by have:=of_decide_eq_true hS;rw[hn] at this;exact this
   rw[if_pos hS,List.length_append,List.length_singleton]
   rw[hop] at ih1 ih2 ⊢
   obtain⟨j,hj⟩:∃ j,(srt (sS (anyW p bs) s) i).length=j:=⟨_,rfl⟩
   rw[hj] at ih1 ih2 hopi ⊢
   have hs01:s=0∨s=1:=by omega
   cases ho:op j with
   | true=>
    rw[ho] at hopi
    have hv:=of_decide_eq_true hopi.symm
    refine⟨fun k hkl hkf=>?_,?_⟩
    ·by_cases e:k=j
     ·rw[e,ho] at hkf;cases hkf
     ·exact ih1 k (by omega) hkf
    ·rw[stk_open ho,List.length_cons,ih2]
     unfold hgt
     rcases hk.2 with ⟨a,b⟩|⟨a,b⟩|⟨a,_,b⟩|⟨a,_,b⟩
     ·rw[a] at hsk;rw[if_pos (by omega),if_pos (by omega),b]
     ·rw[a] at hsk;rw[if_neg (by omega),if_neg (by omega),b]
     ·rw[a] at hv;omega
     ·rw[a] at hv;omega
   | false=>
    rw[ho] at hopi
    have hv:=of_decide_eq_false hopi.symm
    have hpos:0<hgt s (anyS p bs i):=by
     unfold hgt
     rcases hk.2 with ⟨a,b⟩|⟨a,b⟩|⟨a,c,b⟩|⟨a,c,b⟩
     ·rw[a] at hv;omega
     ·rw[a] at hv;omega
     ·rw[a] at hsk;rw[if_pos (by omega)];exact c
     ·rw[a] at hsk;rw[if_neg (by omega)];exact c
    obtain⟨o,r,hst⟩:∃ o r,(stk op j).1=o :: r:=by
     cases h:(stk op j).1 with
     | nil=>rw[h] at ih2;simp at ih2;omega
     | cons o r=>exact⟨o,r,rfl⟩
    refine⟨fun k hkl hkf=>?_,?_⟩
    ·by_cases e:k=j
     ·rw[e,hst];simp
     ·exact ih1 k (by omega) hkf
    ·rw[stk_close ho hst]
     rw[hst,List.length_cons] at ih2
     unfold hgt at ih2 ⊢
     rcases hk.2 with ⟨a,b⟩|⟨a,b⟩|⟨a,c,b⟩|⟨a,c,b⟩
     ·rw[a] at hv;omega
     ·rw[a] at hv;omega
     ·rw[a] at hsk;rw[if_pos (by omega)] at ih2 ⊢;rw[b];simp;omega
     ·rw[a] at hsk;rw[if_neg (by omega)] at ih2 ⊢;rw[b];simp;omega
  ·rw[if_neg hS]
   refine⟨ih1,ih2.trans ?_⟩
   have hsk:¬ anyK p bs i / 2=(s:Int):=by
    intro h
    apply hS
    unfold sS
    rw[hn]
    exact decide_eq_true h
   unfold hgt
   have hs01:s=0∨s=1:=by omega
   rcases hk.2 with ⟨a,b⟩|⟨a,b⟩|⟨a,c,b⟩|⟨a,c,b⟩
   ·rw[a] at hsk;rw[if_neg (by omega),if_neg (by omega),b]
   ·rw[a] at hsk;rw[if_pos (by omega),if_pos (by omega),b]
   ·rw[a] at hsk;rw[if_neg (by omega),if_neg (by omega),b]
   ·rw[a] at hsk;rw[if_pos (by omega),if_pos (by omega),b]
theorem any_pairing:Pairing (plS (anyW p bs) s).length (opL (ownL (anyW p bs) s (anyW p bs).length)) (stk (opL (ownL (anyW p bs) s (anyW p bs).length)) (plS (anyW p bs) s).length).2:=by
 obtain⟨h1,h2⟩:=any_stk hs (p:=p) (bs:=bs) (2*p) (Nat.le_refl _)
 have hi:=anyS_inv p bs (2*p) (Nat.le_refl _)
 have h0:hgt s (anyS p bs (2*p))=0:=by
  have:=hi.le
  unfold hgt
  split <;> omega
 unfold plS
 rw[anyW_length]
 exact stk_pairing h1 (List.eq_nil_of_length_eq_zero (h2.trans h0))
end
end
section
set_option linter.unusedVariables false
structure PMt (L:List Int) (M:List Nat):Prop where
 len:M.length=L.length
 lt:∀ i,i<L.length→at' M i<L.length
 inv:∀ i,i<L.length→at' M (at' M i)=i
 ne:∀ i,i<L.length→at' M i≠i
 op:∀ i,i<L.length→(nth L i % 2=0↔i<at' M i)
theorem pmt_of {L X:List Int} (hX:X.length=L.length) (hk:∀ i,i<L.length→0≤nth L i∧nth L i≤3)
  (hp:∀ s,s<2→Pairing (plS L s).length (opL (ownL L s L.length)) (stS L s)) (hd:∀ s,s<2→DoneS L s (plS L s).length X):∃ M,X=toI M∧PMt L M:=by
 have key:∀ i,i<L.length→∃ s j,s<2∧j<(plS L s).length∧(plS L s).getD j 0=i∧nth L i / 2=(s:Int)∧nth X i=(((plS L s).getD (stS L s j) 0:Nat):Int):=fun i hi=>by
  obtain⟨s,hs,hsi⟩:∃ s:Nat,s<2∧nth L i / 2=(s:Int):=⟨(nth L i / 2).toNat,by have:=hk i hi;omega,by have:=hk i hi;omega⟩
  obtain⟨h1,h2⟩:=srt_idx (S:=sS L s) hi (by unfold sS;exact decide_eq_true hsi)
  refine⟨s,_,hs,h1,h2,hsi,?_⟩
  have:=hd s hs _ h1
  rw[show (plS L s).getD (List.idxOf i (srt (sS L ↑s) L.length)) 0=i from h2] at this
  exact this
 have gs:∀ s j,j<(plS L s).length→(plS L s).getD j 0<L.length∧nth L ((plS L s).getD j 0) / 2=(s:Int):=fun s j hj=>by
  obtain⟨a,b⟩:=srt_get (S:=sS L s) (P:=L.length) hj
  exact⟨a,of_decide_eq_true b⟩
 obtain⟨M,hM⟩:∃ M:List Nat,M=X.map Int.toNat:=⟨_,rfl⟩
 have hMl:M.length=L.length:=by rw[hM,List.length_map,hX]
 have hMa:∀ i,i<L.length→((at' M i:Nat):Int)=nth X i:=fun i hi=>by
  obtain⟨s,j,_,_,_,_,h⟩:=key i hi
  have:at' M i=(nth X i).toNat:=by rw[hM];simp[at',nth,hX,hi]
  rw[this,h];simp
 have val:∀ s j,s<2→j<(plS L s).length→at' M ((plS L s).getD j 0)=(plS L s).getD (stS L s j) 0:=fun s j hs hj=>by
  have h1:=hMa _ (gs s j hj).1
  rw[hd s hs j hj] at h1
  exact Int.ofNat.inj h1
 refine⟨M,?_,hMl,fun i hi=>?_,fun i hi=>?_,fun i hi=>?_,fun i hi=>?_⟩
 ·refine List.ext_getElem (by rw[toI_length,hMl,hX]) fun i h1 h2=>?_
  have hi:i<L.length:=by rw[←hX];exact h1
  have:=hMa i hi
  have e1:nth X i=X[i]:=by simp[nth,h1]
  have e2:at' M i=M[i]'(by rw[hMl];exact hi):=at'_eq (by rw[hMl];exact hi)
  simp only[toI,List.getElem_map]
  rw[←e1,←this,e2]
 ·obtain⟨s,j,hs,hj,rfl,_,_⟩:=key i hi
  rw[val s j hs hj]
  exact (gs s _ ((hp s hs).lt j hj)).1
 ·obtain⟨s,j,hs,hj,rfl,_,_⟩:=key i hi
  rw[val s j hs hj,val s _ hs ((hp s hs).lt j hj),(hp s hs).inv j hj]
 ·obtain⟨s,j,hs,hj,rfl,_,_⟩:=key i hi
  rw[val s j hs hj]
  intro e
  exact (hp s hs).ne j hj (srt_inj ((hp s hs).lt j hj) hj e)
 ·obtain⟨s,j,hs,hj,rfl,_,_⟩:=key i hi
  rw[val s j hs hj]
  have h1:=(hp s hs).op_iff j hj
  have h2:=srt_lt_iff (S:=sS L s) (P:=L.length) hj ((hp s hs).lt j hj)
  rw[show ((plS L s).getD j 0<(plS L s).getD (stS L s j) 0)=((srt (sS L ↑s) L.length).getD j 0<(srt (sS L ↑s) L.length).getD (stS L s j) 0) from rfl,h2,←h1]
  unfold opL
  rw[decide_eq_true_eq]
  have h3:nth (ownL L s L.length) j=1-nth L ((plS L s).getD j 0) % 2:=by
   unfold ownL plS
   have hj':j<(srt (sS L s) L.length).length:=hj
   simp[nth,hj']
  rw[h3]
  have:=hk _ (gs s j hj).1
  omega
def opc (L:List Int):Nat→Nat
 | 0=>0
 | i+1=>opc L i+if nth L i % 2=0 then 1 else 0
theorem opc_mono (L:List Int):∀ {i j:Nat},i≤j→opc L i≤opc L j
 | i,0,h=>by
  obtain rfl:i=0:=by omega
  exact Nat.le_refl _
 | i,j+1,h=>by
  by_cases e:i=j+1
  ·rw[e];exact Nat.le_refl _
  ·have:=opc_mono L (i:=i) (j:=j) (by omega)
   show _≤opc L j+_
   omega
theorem opc_lt {L:List Int} {i j:Nat} (h:i<j) (ho:nth L i % 2=0):opc L i<opc L j:=by
 have h1:opc L (i+1)=opc L i+1:=by show _+_=_;rw[if_pos ho]
 have:=opc_mono L (i:=i+1) (j:=j) (by omega)
 omega
theorem opc_filter (L:List Int):∀ i,opc L i=((List.range i).filter fun j=>decide (nth L j % 2=0)).length
 | 0=>rfl
 | i+1=>by
  rw[List.range_succ,List.filter_append,List.length_append,←opc_filter L i]
  show _+_=_
  by_cases h:nth L i % 2=0 <;> simp[h]
section
variable {L : List Int} {M : List Nat} (h : PMt L M)
include h
theorem opc_half:2*opc L L.length=L.length:=by
 have e1:=opc_filter L L.length
 have hpart:(List.range L.length).length=((List.range L.length).filter fun j=>decide (nth L j % 2=0)).length+((List.range L.length).filter fun j=>!decide (nth L j % 2=0)).length:=by
  have:=List.length_eq_countP_add_countP (fun j=>decide (nth L j % 2=0)) (l:=List.range L.length)
  rw[List.countP_eq_length_filter,List.countP_eq_length_filter] at this
  rw[this]
  congr 2
  exact List.filter_congr fun j _=>by simp
 have hinj:∀ (f:Nat→Bool),(((List.range L.length).filter f).map (at' M)).Nodup:=fun f=>by
  have hn:((List.range L.length).filter f).Nodup:=List.nodup_range.filter _
  rw[List.nodup_iff_pairwise_ne,List.pairwise_map]
  refine List.pairwise_iff_forall_sublist.2 fun {x y} hxy=>?_
  have hx:=List.mem_range.1 (List.mem_filter.1 (hxy.subset List.mem_cons_self)).1
  have hy:=List.mem_range.1 (List.mem_filter.1 (hxy.subset (List.mem_cons_of_mem _ List.mem_cons_self))).1
  have hne:x≠y:=by
   have:=hn.sublist hxy
   simp at this
   exact this
  intro e
  exact hne (by rw[←h.inv x hx,←h.inv y hy,e])
 have a1:=(hinj fun j=>decide (nth L j % 2=0)).length_le_of_subset (l₂:=(List.range L.length).filter fun j=>!decide (nth L j % 2=0)) fun z hz=>by
  obtain⟨j,hj,rfl⟩:=List.mem_map.1 hz
  obtain⟨hj1,hj2⟩:=List.mem_filter.1 hj
  have hj1:=List.mem_range.1 hj1
  have hop:=(h.op j hj1).1 (of_decide_eq_true hj2)
  refine List.mem_filter.2 ⟨List.mem_range.2 (h.lt j hj1),?_⟩
  have hn:¬ nth L (at' M j) % 2=0:=fun hc=>by
   have:=(h.op _ (h.lt j hj1)).1 hc
   rw[h.inv j hj1] at this
   omega
  simp[hn]
 have a2:=(hinj fun j=>!decide (nth L j % 2=0)).length_le_of_subset (l₂:=(List.range L.length).filter fun j=>decide (nth L j % 2=0)) fun z hz=>by
  obtain⟨j,hj,rfl⟩:=List.mem_map.1 hz
  obtain⟨hj1,hj2⟩:=List.mem_filter.1 hj
  have hj1:=List.mem_range.1 hj1
  have hj2:¬ nth L j % 2=0:=by simpa using hj2
  refine List.mem_filter.2 ⟨List.mem_range.2 (h.lt j hj1),decide_eq_true ?_⟩
  refine (h.op _ (h.lt j hj1)).2 ?_
  rw[h.inv j hj1]
  have h1:¬ j<at' M j:=fun hlt=>hj2 ((h.op j hj1).2 hlt)
  have h2:=h.ne j hj1
  omega
 simp only[List.length_map,List.length_range] at a1 a2 hpart
 omega
def nmW (L:List Int) (M:List Nat) (i:Nat):List Nat:=(List.range L.length).map fun j=>if nth L j % 2=0 then (if j<i then 2*opc L j else 0) else (if at' M j<i then 2*opc L (at' M j)+1 else 0)
omit h in
theorem nmW_length (L:List Int) (M:List Nat) (i:Nat):(nmW L M i).length=L.length:=by simp[nmW]
omit h in
theorem nmW_at {i j:Nat} (hj:j<L.length):at' (nmW L M i) j=if nth L j % 2=0 then (if j<i then 2*opc L j else 0) else (if at' M j<i then 2*opc L (at' M j)+1 else 0):=by simp[nmW,at',hj]
theorem nmW_open {i:Nat} (hi:i<L.length) (ho:nth L i % 2=0):((nmW L M i).set i (2*opc L i)).set (at' M i) (2*opc L i+1)=nmW L M (i+1):=by
 refine List.ext_getElem (by simp[nmW]) fun j h1 h2=>?_
 have hj:j<L.length:=by simpa [nmW] using h2
 have hlt:=(h.op i hi).1 ho
 have hmo:¬ nth L (at' M i) % 2=0:=fun hc=>by
  have:=(h.op _ (h.lt i hi)).1 hc
  rw[h.inv i hi] at this
  omega
 rw[List.getElem_set,List.getElem_set]
 simp only[nmW,List.getElem_map,List.getElem_range]
 by_cases e1:at' M i=j
 ·subst e1
  rw[if_pos rfl,if_neg hmo,h.inv i hi,if_pos (by omega)]
 ·rw[if_neg e1]
  by_cases e2:i=j
  ·subst e2
   rw[if_pos rfl,if_pos ho,if_pos (by omega)]
  ·rw[if_neg e2]
   by_cases ho2:nth L j % 2=0
   ·rw[if_pos ho2,if_pos ho2]
    by_cases hji:j<i
    ·rw[if_pos hji,if_pos (by omega)]
    ·rw[if_neg hji,if_neg (by omega)]
   ·rw[if_neg ho2,if_neg ho2]
    have hmj:at' M j≠i:=fun e=>e1 (by rw[←e,h.inv j hj])
    by_cases hji:at' M j<i
    ·rw[if_pos hji,if_pos (by omega)]
    ·rw[if_neg hji,if_neg (by omega)]
theorem nmW_close {i:Nat} (hi:i<L.length) (ho:¬ nth L i % 2=0):nmW L M i=nmW L M (i+1):=by
 refine List.ext_getElem (by simp[nmW]) fun j h1 h2=>?_
 have hj:j<L.length:=by simpa [nmW] using h2
 simp only[nmW,List.getElem_map,List.getElem_range]
 by_cases ho2:nth L j % 2=0
 ·rw[if_pos ho2,if_pos ho2]
  have:j≠i:=fun e=>ho (e ▸ ho2)
  by_cases hji:j<i
  ·rw[if_pos hji,if_pos (by omega)]
  ·rw[if_neg hji,if_neg (by omega)]
 ·rw[if_neg ho2,if_neg ho2]
  have hmj:at' M j≠i:=fun e=>by
   have h1:i<at' M i∨at' M i<i:=by have:=h.ne i hi;omega
   have e2:at' M i=j:=by rw[←e,h.inv j hj]
   rcases h1 with h1|h1
   ·exact ho ((h.op i hi).2 h1)
   ·rw[e2] at h1
    exact ho2 ((h.op j hj).2 (by rw[e];exact h1))
  by_cases hji:at' M j<i
  ·rw[if_pos hji,if_pos (by omega)]
  ·rw[if_neg hji,if_neg (by omega)]
theorem nmW_perm:IsPerm (nmW L M L.length):=by
 have hh:=opc_half h
 have hcl:∀ j,j<L.length→¬ nth L j % 2=0→nth L (at' M j) % 2=0:=fun j hj hn=>by
  refine (h.op _ (h.lt j hj)).2 ?_
  rw[h.inv j hj]
  have h1:¬ j<at' M j:=fun hlt=>hn ((h.op j hj).2 hlt)
  have h2:=h.ne j hj
  omega
 refine IsPerm.of_inj (fun i hi=>?_) (fun i j hi hj e=>?_)
 ·rw[nmW_length] at hi ⊢
  rw[nmW_at hi]
  by_cases ho:nth L i % 2=0
  ·rw[if_pos ho,if_pos hi]
   have:=opc_lt hi ho
   omega
  ·rw[if_neg ho,if_pos (h.lt i hi)]
   have:=opc_lt (h.lt i hi) (hcl i hi ho)
   omega
 ·rw[nmW_length] at hi hj
  rw[nmW_at hi,nmW_at hj] at e
  have inj:∀ x y,x<L.length→y<L.length→nth L x % 2=0→nth L y % 2=0→opc L x=opc L y→x=y:=fun x y hx hy ox oy he=>by
   rcases Nat.lt_trichotomy x y with h1|h1|h1
   ·have:=opc_lt h1 ox;omega
   ·exact h1
   ·have:=opc_lt h1 oy;omega
  by_cases oi:nth L i % 2=0
  ·rw[if_pos oi,if_pos hi] at e
   by_cases oj:nth L j % 2=0
   ·rw[if_pos oj,if_pos hj] at e
    exact inj i j hi hj oi oj (by omega)
   ·rw[if_neg oj,if_pos (h.lt j hj)] at e
    omega
  ·rw[if_neg oi,if_pos (h.lt i hi)] at e
   by_cases oj:nth L j % 2=0
   ·rw[if_pos oj,if_pos hj] at e
    omega
   ·rw[if_neg oj,if_pos (h.lt j hj)] at e
    have:=inj _ _ (h.lt i hi) (h.lt j hj) (hcl i hi oi) (hcl j hj oj) (by omega)
    rw[←h.inv i hi,this,h.inv j hj]
end
end
section
open Go.RowKit
set_option linter.unusedVariables false
theorem r4mates_pmt (R:Reg) (w:World) (hI:Inv R w) (v:Value) (L:List Int) (hv:FreeI R w v L) (hk:∀ i,i<L.length→0≤nth L i∧nth L i≤3) (hn:L.length≤1000000) (hp:∀ s,s<2→Pairing (plS L s).length (opL (ownL L s L.length)) (stS L s)):
  Calls Tryz.prog 102 #[v] w fun e w'=>∃ a c M,e=.returned (.slice a L.length c)∧Ev R w R w'∧PMt L M∧OwnI R w.heap.size 3 w' (.slice a L.length c) (toI M):=by
 refine (r4mates_any R w hI v L hv hk hn (stS L) hp).mono ?_
 rintro e w' ⟨a,c,X,rfl,he,hX,hd,ho⟩
 obtain⟨M,rfl,hM⟩:=pmt_of hX hk hp hd
 exact⟨a,c,M,rfl,he,hM,ho⟩
set_option maxRecDepth 100000 in
set_option maxHeartbeats 2000000 in
theorem r12names_any (R:Reg) (w:World) (hI:Inv R w) (v:Value) (L:List Int) (hv:FreeI R w v L) (hk:∀ i,i<L.length→0≤nth L i∧nth L i≤3) (hn:L.length≤100000) (hp:∀ s,s<2→Pairing (plS L s).length (opL (ownL L s L.length)) (stS L s)):
  Calls Tryz.prog 84 #[v] w fun e w'=>∃ a c N,e=.returned (.slice a L.length c)∧Ev R w R w'∧IsPerm N∧N.length=L.length∧OwnI R w.heap.size 3 w' (.slice a L.length c) (toI N):=by
 obtain⟨a0,cap0,rfl,hv⟩:=hv.open
 have HMt:=Lib.hid (fun w' (he:Ev R w R w')=>r4mates_pmt R w' he.inv _ L (hv.ev he) hk (by omega) hp)
 obtain⟨n,hl⟩:∃ n,L.length=n:=⟨_,rfl⟩
 have HL:=Lib.hid hl
 have HV:=Lib.hid hv
 have HK:=Lib.hid hk
 have HI:=Lib.hid hI
 obtain⟨i0,hi,hz0,hz1,hz2⟩:=info_parts int_info
 rw[hl] at HMt HV hn ⊢
 clear hl hv hk hI hp
 go_enter Tryz.func84,Tryz.ntmps84
 go_wp2_with (refine wpList_make_full _ rfl _ _ 25 rfl w.heap.size 3 i0 (.int .i64 0) 1 Tryz.underlying25 hi hz0 hz1 .i64 .i64 (n:Int) (n:Int) n rfl rfl rfl rfl ?q1 ?q2 (Nat.le_refl _) ?_)
 case q1=>rw[hz2];omega
 case q2=>unfold maxLen;omega
 intro w1 ho1 hg1
 have hown:OwnI R w.heap.size 3 w1 (.slice (some ⟨w.heap.size,0,none⟩) n n) (List.replicate n 0):=OwnI.made HI.out ho1
 have he1:Ev R w R w1:=(Ev.refl HI.out).grown hg1 (by simp)
 have HO1:=Lib.hid hown
 have HE1:=Lib.hid he1
 have hRw:R w.heap.size=none:=HI.out.none_of_ge (Nat.le_refl _)
 have hz1s:w.heap.size<w1.heap.size:=(hown.lt w.heap.size rfl).2
 clear ho1 hg1 hown he1
 obtain⟨g3,hg3⟩:∃ g,w.heap.size=g:=⟨_,rfl⟩
 rw[hg3] at HO1 hRw hz1s
 rw[hg3]
 have hg3w:w.heap.size≤g3:=by omega
 have HG3:=Lib.hid hg3
 clear hg3
 go_wp2_with fail
 refine (HMt.out _ HE1.out).mono ?_
 rintro e w2 ⟨a4,c4,M,rfl,he2,hM,ho2⟩
 have HE2:=Lib.hid (HE1.out.trans he2)
 have HO2:=Lib.hid (HO1.out.ev he2)
 have HM:=Lib.hid hM
 have HOm:=Lib.hid ho2
 have hne:(Value.slice a4 n c4).ownBlock≠some g3:=fun e=>by have:=(ho2.lt _ e).1;omega
 have hz0':List.replicate n 0=toI (nmW L M 0):=by
  refine List.ext_getElem (by rw[toI_length,nmW_length,HL.out];simp) fun j h1 h2=>?_
  simp[toI,nmW]
 rw[hz0'] at HO2
 clear he2 hM ho2 hz0' HO1 HE1 HMt
 go_wp2_with fail
 go_loopg [5,15] n (fun g v5 v15 wr=>∃ (i:Nat),i≤n∧n-i≤g∧v15=.int .i64 (i:Int)∧v5=.int .i64 ((2*opc L i:Nat):Int)∧Ev R w R wr∧OwnI R g3 3 wr (.slice (some ⟨g3,0,none⟩) n n) (toI (nmW L M i))∧OwnI R w1.heap.size 3 wr (.slice a4 n c4) (toI M))
 case atStart=>exact⟨0,Nat.zero_le _,by omega,rfl,rfl,HE2.out,HO2.out,HOm.out⟩
 case round=>
  clear HE2 HO2 HOm
  obtain⟨i,hin,hg,rfl,rfl,hev,ho,hm⟩:=hrel
  have HE:=Lib.hid hev
  have HO:=Lib.hid ho
  have HOm:=Lib.hid hm
  clear hev ho hm
  by_cases hi':i<n
  ·have hiL:i<L.length:=by rw[HL.out];exact hi'
   obtain⟨bS,oS,rfl,hc⟩:=(HV.out.ev HE.out).1.cell (i:=i) hiL
   obtain⟨k,hke⟩:∃ k,nth L i=k:=⟨_,rfl⟩
   rw[hke] at hc
   obtain⟨kn,rfl⟩:∃ kn:Nat,k=(kn:Int):=⟨k.toNat,by have:=HK.out i hiL;rw[hke] at this;omega⟩
   obtain⟨q,hq⟩:∃ q,2*opc L i=q:=⟨_,rfl⟩
   rw[hq]
   have hql:q≤200000:=by
    rw[←hq,opc_filter]
    have:=List.length_filter_le (fun j=>decide (nth L j % 2=0)) (List.range i)
    rw[List.length_range] at this
    omega
   by_cases ho:(kn:Int) % 2=0
   ·have hoL:nth L i % 2=0:=by rw[hke];exact ho
    have hop:=nmW_open HM.out hiL hoL
    have hml:=HM.out.lt i hiL
    have hsc:opc L (i+1)=opc L i+1:=by show _+_=_;rw[if_pos hoL]
    obtain⟨m,hme⟩:∃ m,at' M i=m:=⟨_,rfl⟩
    rw[hme,hq] at hop
    rw[hme,HL.out] at hml
    obtain⟨g4,rfl,_,_,k4,_⟩:=HOm.out.headAt (by rw[toI_length,HM.out.len,HL.out]) hi'
    rw[toI_nth,hme] at k4
    have hlen:(toI (nmW L M i)).length=n:=by rw[toI_length,nmW_length,HL.out]
    obtain⟨g',e',_,_,_,f1⟩:=HO.out.headAt hlen hi'
    cases e'
    obtain⟨q1,hq1⟩:∃ x,q+1=x:=⟨_,rfl⟩
    rw[hq1] at hop
    have hput:=HO.out.put hlen i hi' ((q:Nat):Int)
    obtain⟨g',e',_,_,k5,f2⟩:=hput.headAt (by rw[List.length_set];exact hlen) hml
    cases e'
    have hput2:=hput.put (by rw[List.length_set];exact hlen) m hml ((q1:Nat):Int)
    have hst:((toI (nmW L M i)).set i ((q:Nat):Int)).set m ((q1:Nat):Int)=toI (nmW L M (i+1)):=by rw[←hop];simp[toI,List.map_set]
    rw[hst] at hput2
    obtain⟨g',e',_,_,k6,_⟩:=HO.out.headAt hlen hi'
    cases e'
    have HO3:=Lib.hid hput2
    have HE3:=Lib.hid ((HE.out.setCell (p:=⟨g3,i,none⟩) hg3w hRw (.int .i64 (q:Int))).setCell (p:=⟨g3,m,none⟩) hg3w hRw (.int .i64 (q1:Int)))
    have HOm3:=Lib.hid ((HOm.out.setCell (a:=⟨g3,i,none⟩) hne (.int .i64 (q:Int))).setCell (a:=⟨g3,m,none⟩) hne (.int .i64 (q1:Int)))
    have hw1:IntKind.i64.wrap ((q:Int)+1)=(q1:Int):=by rw[show (q:Int)+1=(q1:Int) by omega];exact IntWalk.i64_in _ (by omega)
    obtain⟨q2,hq2⟩:∃ x,q+2=x:=⟨_,rfl⟩
    have hw2:IntKind.i64.wrap ((q:Int)+2)=(q2:Int):=by rw[show (q:Int)+2=(q2:Int) by omega];exact IntWalk.i64_in _ (by omega)
    have hqs:2*opc L (i+1)=q2:=by rw[hsc];omega
    have HQs:=Lib.hid hqs
    have hmr:(m:Int)<(n:Int):=by omega
    have hir:(i:Int)<(n:Int):=by omega
    clear hop hput hput2 hst hme hq hq1 hq2 hqs hsc hke hoL hlen HO HE HOm
    go_wp2_with fail
    go_roundg (n-(i+1))
    case measure=>omega
    case rel=>exact⟨i+1,by omega,by omega,by go_num,by rw[HQs.out],HE3.out,HO3.out,HOm3.out⟩
   ·have hoL:¬ nth L i % 2=0:=by rw[hke];exact ho
    have hcl:=nmW_close HM.out hiL hoL
    have hsc:2*opc L (i+1)=q:=by
     rw[←hq]
     show 2*(_+_)=_
     rw[if_neg hoL];rfl
    have HCl:=Lib.hid hcl
    have HSc:=Lib.hid hsc
    have hk01:(kn:Int) % 2=1:=by omega
    have hir:(i:Int)<(n:Int):=by omega
    clear hcl hsc hq hke hoL
    go_wp2_with fail
    go_roundg (n-(i+1))
    case measure=>omega
    case rel=>exact⟨i+1,by omega,by omega,by go_num,by rw[HSc.out],HE.out,by rw[←HCl.out];exact HO.out,HOm.out⟩
  ·obtain rfl:i=n:=by omega
   have hpm:=nmW_perm HM.out
   rw[HL.out] at hpm
   have HPm:=Lib.hid hpm
   clear hpm
   go_wp2_with fail
   go_ret
   exact⟨_,_,_,rfl,HE.out,HPm.out,by rw[nmW_length,HL.out],by rw[HG3.out];exact HO.out⟩
end
end Go.Proofs.YtgphnkkdmlohlaaGreatDoor
