/- Rows of steps (two integers each) in memory. -/
import Derived.Test.YtgphnkkdmlohlaaZShellRights15
namespace Go.Proofs.Ytgphnkkdmlohlaa
section
open Go.RowKit
set_option linter.unusedVariables false
theorem OwnV.madeAt {R:Reg} {w1:World} {B:Nat} {E:TypeId} {g n:Nat} {z:Value} (hg:R g=none) (ho:w1.ownsRow B E 1 (.slice (some ⟨g,0,none⟩) n n) n (madeCells #[z] (n*1)).toList):
  OwnV R B E 1 w1 (.slice (some ⟨g,0,none⟩) n n) n (List.replicate n z):=by
 refine⟨?_,fun k hk=>?_⟩
 ·rw[Nat.mul_one,toList_madeCells_one] at ho
  exact ho
 ·simp only[Value.ownBlock,Option.some.injEq] at hk
  rw[←hk];exact hg
end
section
open Go.RowKit
set_option linter.unusedVariables false
end
section
open Go.RowKit
set_option linter.unusedVariables false
end
section
open Go.RowKit
set_option linter.unusedVariables false
end
section
open Go.RowKit
set_option linter.unusedVariables false
theorem dis_ne {u v:Value} (h:∀ k,u.ownBlock=some k→v.ownBlock≠some k):v.ownBlock=none∨v.ownBlock≠u.ownBlock:=by
 cases hu:u.ownBlock with
 | none=>
  cases hv:v.ownBlock with
  | none=>exact Or.inl rfl
  | some k=>exact Or.inr (by simp)
 | some k=>exact Or.inr (h k hu)
end
section
open Go.RowKit
set_option linter.unusedVariables false
end
section
open Go.RowKit
set_option linter.unusedVariables false
set_option maxRecDepth 100000 in
set_option maxHeartbeats 1000000 in
theorem index_any (w:World) (a:Option Addr) (n cap:Nat) (xs:List Int) (y:Int) (hv:Ints w (.slice a n cap) xs) (hn:n≤8388608):
  Calls Try.prog 73 #[.slice a n cap,.int .i64 y] w fun e w'=>w'=w∧∃ r:Int,e=.returned (.int .i64 r)∧((r=-1∧∀ i,i<n→nth xs i≠y)∨∃ i:Nat,r=(i:Int)∧i<n∧nth xs i=y):=by
 have HL:=Lib.hid hv.length_eq
 have HV:=Lib.hid hv
 clear hv
 go_enter Try.func73,Try.ntmps73
 go_wp2_with fail
 go_loopg [8] n (fun g v8 wr=>∃ i:Nat,i≤n∧n-i≤g∧v8=.int .i64 (i:Int)∧wr=w∧∀ j,j<i→nth xs j≠y)
 case atStart=>exact⟨0,by omega,by omega,rfl,rfl,fun j hj=>by omega⟩
 case round=>
  obtain⟨i,hi,hg,rfl,rfl,hall⟩:=hrel
  have HA:=Lib.hid hall
  clear hall
  by_cases hil:i<n
  ·obtain⟨b,off,rfl,hc⟩:=HV.out.cell (i:=i) (by have:=HL.out;omega)
   obtain⟨x,hx⟩:∃ x,nth xs i=x:=⟨_,rfl⟩
   rw[hx] at hc
   have HX:=Lib.hid hx
   clear hx
   by_cases hxy:y=x
   ·subst hxy
    have hb:(y == y)=true:=by simp
    go_wp2_with fail
    go_ret
    exact⟨rfl,i,rfl,Or.inr ⟨i,rfl,hil,HX.out⟩⟩
   ·have hb:(y == x)=false:=by simp[hxy]
    go_wp2_with fail
    go_roundg (n-(i+1))
    case measure=>omega
    case rel=>exact⟨i+1,by omega,by omega,by go_num,rfl,fun j hj=>by
     by_cases e:j=i
     ·subst e;rw[HX.out];exact fun e=>hxy e.symm
     ·exact HA.out j (by omega)⟩
  ·obtain rfl:i=n:=by omega
   go_wp2_with fail
   go_ret
   exact⟨rfl,-1,rfl,Or.inl ⟨rfl,HA.out⟩⟩
set_option maxRecDepth 100000 in
set_option maxHeartbeats 1000000 in
theorem contains_any (w:World) (a:Option Addr) (n cap:Nat) (xs:List Int) (y:Int) (hv:Ints w (.slice a n cap) xs) (hn:n≤8388608):
  Calls Try.prog 60 #[.slice a n cap,.int .i64 y] w fun e w'=>w'=w∧e=.returned (.bool (decide (y∈xs))):=by
 have hl:=hv.length_eq
 have h:=index_any w a n cap xs y hv hn
 have hin:(∀ i,i<n→nth xs i≠y)→decide (y∈xs)=false:=fun h=>decide_eq_false fun hm=>by
  obtain⟨i,hi,e⟩:=List.getElem_of_mem hm
  exact h i (by omega) (by simp[nth,hi,e])
 have hout:∀ i:Nat,i<n→nth xs i=y→decide (y∈xs)=true:=fun i hi e=>decide_eq_true (by
  have hx:nth xs i=xs[i]:=by simp[nth,show i<xs.length by omega]
  rw[←e,hx]
  exact List.getElem_mem _)
 have HIN:=Lib.hid hin
 have HOUT:=Lib.hid hout
 clear hin hout hl
 go_enter Try.func60,Try.ntmps60
 go_wp2_with fail
 refine h.mono ?_
 rintro e w' ⟨rfl,r,rfl,⟨rfl,h⟩|⟨i,rfl,hi,he⟩⟩
 ·go_wp2_with fail
  go_ret
  exact⟨rfl,by rw[HIN.out h];rfl⟩
 ·go_wp2_with fail
  go_ret
  exact⟨rfl,by rw[HOUT.out i hi he];simp⟩
end
end Go.Proofs.Ytgphnkkdmlohlaa
