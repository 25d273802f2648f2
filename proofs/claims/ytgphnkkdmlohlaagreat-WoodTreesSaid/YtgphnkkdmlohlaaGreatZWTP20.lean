/- Rows of steps (two integers each) in memory. -/
import Derived.Test.YtgphnkkdmlohlaaGreatZWTP17
import Derived.Test.YtgphnkkdmlohlaaGreatZWTP03
namespace Go.Proofs.YtgphnkkdmlohlaaGreat
section
open Go.RowKit
set_option linter.unusedVariables false
theorem OwnV.madeAt {R:Reg} {w1:World} {B:Nat} {E:TypeId} {g n:Nat} {z:Value} (hg:R g=none) (ho:w1.ownsRow B E 1 (.slice (some ⟨g,0,none⟩) n n) n (madeCells #[z] (n*1)).toList):
  OwnV R B E 1 w1 (.slice (some ⟨g,0,none⟩) n n) n (List.replicate n z):=by
 refine⟨?_,fun k hk=>?_⟩
 ·rw[Nat.mul_one,toList_madeCells_one] at ho
  exact ho
 ·simp only[Value.ownBlock,Option.some.injEq] at hk
  rw[←hk];exact hg
end
section
open Go.RowKit
set_option linter.unusedVariables false
end
section
open Go.RowKit
set_option linter.unusedVariables false
end
section
open Go.RowKit
set_option linter.unusedVariables false
end
section
open Go.RowKit
set_option linter.unusedVariables false
theorem dis_ne {u v:Value} (h:∀ k,u.ownBlock=some k→v.ownBlock≠some k):v.ownBlock=none∨v.ownBlock≠u.ownBlock:=by
 cases hu:u.ownBlock with
 | none=>
  cases hv:v.ownBlock with
  | none=>exact Or.inl rfl
  | some k=>exact Or.inr (by simp)
 | some k=>exact Or.inr (h k hu)
end
section
open Go.RowKit
set_option linter.unusedVariables false
end
section
open Go.RowKit
set_option linter.unusedVariables false
set_option maxRecDepth 100000 in
set_option maxHeartbeats 1000000 in
theorem index_any (w:World) (a:Option Addr) (n cap:Nat) (xs:List Int) (y:Int) (hv:Ints w (.slice a n cap) xs) (hn:n≤8388608):
  Calls Tryz.prog 92 #[.slice a n cap,.int .i64 y] w fun e w'=>w'=w∧∃ r:Int,e=.returned (.int .i64 r)∧((r=-1∧∀ i,i<n→nth xs i≠y)∨∃ i:Nat,r=(i:Int)∧i<n∧nth xs i=y):=by
 have HL:=Lib.hid hv.length_eq
 have HV:=Lib.hid hv
 clear hv
 go_enter Tryz.func92,Tryz.ntmps92
 go_wp2_with fail
 go_loopg [8] n (fun g v8 wr=>∃ i:Nat,i≤n∧n-i≤g∧v8=.int .i64 (i:Int)∧wr=w∧∀ j,j<i→nth xs j≠y)
 case atStart=>exact⟨0,by omega,by omega,rfl,rfl,fun j hj=>by omega⟩
 case round=>
  obtain⟨i,hi,hg,rfl,rfl,hall⟩:=hrel
  have HA:=Lib.hid hall
  clear hall
  by_cases hil:i<n
  ·obtain⟨b,off,rfl,hc⟩:=HV.out.cell (i:=i) (by have:=HL.out;omega)
   obtain⟨x,hx⟩:∃ x,nth xs i=x:=⟨_,rfl⟩
   rw[hx] at hc
   have HX:=Lib.hid hx
   clear hx
   by_cases hxy:y=x
   ·subst hxy
    have hb:(y == y)=true:=by simp
    go_wp2_with fail
    go_ret
    exact⟨rfl,i,rfl,Or.inr ⟨i,rfl,hil,HX.out⟩⟩
   ·have hb:(y == x)=false:=by simp[hxy]
    go_wp2_with fail
    go_roundg (n-(i+1))
    case measure=>omega
    case rel=>exact⟨i+1,by omega,by omega,by go_num,rfl,fun j hj=>by
     by_cases e:j=i
     ·subst e;rw[HX.out];exact fun e=>hxy e.symm
     ·exact HA.out j (by omega)⟩
  ·obtain rfl:i=n:=by omega
   go_wp2_with fail
   go_ret
   exact⟨rfl,-1,rfl,Or.inl ⟨rfl,HA.out⟩⟩
set_option maxRecDepth 100000 in
set_option maxHeartbeats 1000000 in
theorem contains_any (w:World) (a:Option Addr) (n cap:Nat) (xs:List Int) (y:Int) (hv:Ints w (.slice a n cap) xs) (hn:n≤8388608):
  Calls Tryz.prog 32 #[.slice a n cap,.int .i64 y] w fun e w'=>w'=w∧e=.returned (.bool (decide (y∈xs))):=by
 have hl:=hv.length_eq
 have h:=index_any w a n cap xs y hv hn
 have hin:(∀ i,i<n→nth xs i≠y)→decide (y∈xs)=false:=fun h=>decide_eq_false fun hm=>by
  obtain⟨i,hi,e⟩:=List.getElem_of_mem hm
  exact h i (by omega) (by simp[nth,hi,e])
 have hout:∀ i:Nat,i<n→nth xs i=y→decide (y∈xs)=true:=fun i hi e=>decide_eq_true (by
  have hx:nth xs i=xs[i]:=by simp[nth,show i<xs.length by omega]
  rw[←e,hx]
  exact List.getElem_mem _)
 have HIN:=Lib.hid hin
 have HOUT:=Lib.hid hout
 clear hin hout hl
 go_enter Tryz.func32,Tryz.ntmps32
 go_wp2_with fail
 refine h.mono ?_
 rintro e w' ⟨rfl,r,rfl,⟨rfl,h⟩|⟨i,rfl,hi,he⟩⟩
 ·go_wp2_with fail
  go_ret
  exact⟨rfl,by rw[HIN.out h];rfl⟩
 ·go_wp2_with fail
  go_ret
  exact⟨rfl,by rw[HOUT.out i hi he];simp⟩
end
section
open Go.RowKit
set_option linter.unusedVariables false
set_option maxRecDepth 100000 in
set_option maxHeartbeats 1000000 in
theorem smax_any (w:World) (a:Option Addr) (n cap:Nat) (xs:List Int) (hv:Ints w (.slice a n cap) xs) (h1:1≤n) (hn:n≤8388608):
  Calls Tryz.prog 81 #[.slice a n cap] w fun e w'=>w'=w∧∃ m:Int,e=.returned (.int .i64 m)∧(∃ i,i<n∧nth xs i=m)∧∀ i,i<n→nth xs i≤m:=by
 have HL:=Lib.hid hv.length_eq
 have HV:=Lib.hid hv
 obtain⟨b,off,rfl,hc0⟩:=hv.cell (i:=0) (by have:=HL.out;omega)
 rw[Nat.add_zero] at hc0
 obtain⟨y0,hy0⟩:∃ y,nth xs 0=y:=⟨_,rfl⟩
 rw[hy0] at hc0
 have HY0:=Lib.hid hy0
 have hn1:decide ((n:Int)<1)=false:=decide_eq_false (by omega)
 have hn2:¬ n<1:=by omega
 clear hv hy0
 go_enter Tryz.func81,Tryz.ntmps81
 go_wp2_with fail
 go_loopg [3,4] n (fun g v3 v4 wr=>∃ (i:Nat) (m:Int),1≤i∧i≤n∧n-i≤g∧v3=.int .i64 m∧v4=.int .i64 (i:Int)∧wr=w∧(∃ j,j<n∧nth xs j=m)∧∀ j,j<i→nth xs j≤m)
 case atStart=>exact⟨1,y0,by omega,by omega,by omega,rfl,rfl,rfl,⟨0,by omega,HY0.out⟩,fun j hj=>by
  obtain rfl:j=0:=by omega
  rw[HY0.out];exact Int.le_refl _⟩
 case round=>
  obtain⟨i,m,hi1,hi,hg,rfl,rfl,rfl,hex,hall⟩:=hrel
  have HEx:=Lib.hid hex
  have HA:=Lib.hid hall
  clear hex hall
  by_cases hil:i<n
  ·obtain⟨b',off',e,hc⟩:=HV.out.cell (i:=i) (by have:=HL.out;omega)
   cases e
   obtain⟨x,hx⟩:∃ x,nth xs i=x:=⟨_,rfl⟩
   rw[hx] at hc
   have HX:=Lib.hid hx
   have hex:∃ j,j<n∧nth xs j=x:=⟨i,hil,hx⟩
   have HEy:=Lib.hid hex
   clear hx hex
   rcases Int.lt_or_le m x with hq|hq
   ·have hq2:¬ (x≤m):=by omega
    have hq3:¬ (x<m):=by omega
    go_wp2_with fail
    go_roundg (n-(i+1))
    case measure=>omega
    case rel=>exact⟨i+1,x,by omega,by omega,by omega,rfl,by go_num,rfl,HEy.out,fun j hj=>by
     by_cases e:j=i
     ·subst e;rw[HX.out];omega
     ·have:=HA.out j (by omega);omega⟩
   ·have hq2:¬ (m<x):=by omega
    go_wp2_with fail
    go_roundg (n-(i+1))
    case measure=>omega
    case rel=>exact⟨i+1,m,by omega,by omega,by omega,rfl,by go_num,rfl,HEx.out,fun j hj=>by
     by_cases e:j=i
     ·subst e;rw[HX.out];omega
     ·have:=HA.out j (by omega);omega⟩
  ·obtain rfl:n=i:=by omega
   go_wp2_with fail
   go_ret
   exact⟨rfl,m,rfl,HEx.out,HA.out⟩
end
end Go.Proofs.YtgphnkkdmlohlaaGreat
