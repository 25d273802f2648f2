/- parquetryref10.Cut, Shrink. -/
import Derived.Test.YtgphnkkdmlohlaaGreatDoorZWoodNo21
import Derived.Deep.RegionHeld3
import Derived.Deep.RegionLaw
import Derived.Test.YtgphnkkdmlohlaaGreatDoorZWoodNo16
import Derived.Test.YtgphnkkdmlohlaaGreatDoorZWoodNo17
import Derived.Test.YtgphnkkdmlohlaaGreatDoorZWoodNo22
import Derived.Test.YtgphnkkdmlohlaaGreatDoorZWoodNo20
namespace Go.Proofs.YtgphnkkdmlohlaaGreatDoor
section
open Go.RowKit
set_option linter.unusedVariables false
theorem one_cell (w:World) (u:Value):∀ j x,[u][j]?=some x→(w.alloc (.cells #[u] 25)).cell? ((⟨w.heap.size,0,none⟩:Addr).add j)=some x:=by
 intro j x hj
 match j,hj with
 | 0,hj=>
  simp only[List.getElem?_cons_zero,Option.some.injEq] at hj
  subst hj
  simp[Addr.add]
theorem one_one (a:Option Addr) (n c:Nat):∀ u∈[Value.slice a n c],u.oneCell'=true:=by
 intro u hu
 simp only[List.mem_singleton] at hu
 subst hu
 rfl
theorem OwnI.capLe {R:Reg} {B:Nat} {E:TypeId} {w:World} {a:Option Addr} {n c:Nat} {xs:List Int} (h:OwnI R B E w (.slice a n c) xs) (hn:xs.length=n):n≤c:=by
 subst hn
 rcases h.1.2 with ⟨e1,e2⟩|⟨g,cap,cur,e,hbg,hg,hnc,hcm,hcs,htake⟩
 ·simp at e1;omega
 ·cases e;exact hnc
end
section
open Go.RowKit
set_option linter.unusedVariables false
def aftF (t d x:Nat):List Nat:=if x=t then [x,d] else [x]
def witF (d x:Nat):List Nat:=if x=d then [] else [x]
def outL (f:Nat→List Nat) (xss:List (List Nat)):List (List Nat):=xss.map fun v=>v.flatMap f
def RowsSm (xss:List (List Nat)):Prop:=xss.length≤100000∧∀ i,i<xss.length→(xss.getD i []).length≤100000∧∀ x,x∈xss.getD i []→x≤1000000
end
section
set_option linter.unusedVariables false
def par (s:List Nat) (n:Nat) (e f:Nat):Prop:=e<n∧f<n∧((nth (namesL s) (2*e)=nth (namesL s) (2*f)∧nth (namesL s) (2*e+1)=nth (namesL s) (2*f+1))∨(nth (namesL s) (2*e)=nth (namesL s) (2*f+1)∧nth (namesL s) (2*e+1)=nth (namesL s) (2*f)))
section
variable {s t : List Nat} (hs : IsPerm s) (he : s.length % 2 = 0) (ht : IsPerm t) (hl : t.length = s.length) (hm : Mates t)
include hs he ht hl hm
end
end
section
set_option linter.unusedVariables false
section
variable {M : List Nat} (hM : IsPerm M) (fb : Nat → Bool)
include hM
end
section
variable {s t : List Nat} (hs : IsPerm s) (ht : IsPerm t) (hl : t.length = s.length)
include ht
include hs hl
end
end
section
set_option linter.unusedVariables false
def hasE (F:List Nat) (d:Nat):Bool:=F.any fun x=>decide (x / 2=d / 2)
structure FOk (n:Nat) (F:List Nat):Prop where
 lt:∀ i,i<F.length→at' F i<n
 one:∀ i j,i<F.length→j<F.length→at' F i / 2=at' F j / 2→i=j
section
variable {n : Nat} {F : List Nat} (h : FOk n F) (he : n % 2 = 0) (hall : ∀ d, d < n → hasE F d = true)
include h he hall
end
section
variable {s : List Nat} (hs : IsPerm s) (he : s.length % 2 = 0)
include hs he
end
end
section
set_option linter.unusedVariables false
section
variable {s t : List Nat} (hs : IsPerm s) (he : s.length % 2 = 0) (ht : IsPerm t) (hl : t.length = s.length) (hm : Mates t)
include hs he ht hl hm
end
section
variable {s t : List Nat} (hs : IsPerm s) (he : s.length % 2 = 0) (ht : IsPerm t) (hl : t.length = s.length) (hm : Mates t)
include hs he ht hl hm
end
end
section
set_option linter.unusedVariables false
section
variable {n : Nat} {G l : List Nat} (h : FOk n (G ++ l))
include h
end
section
variable {s : List Nat} (hs : IsPerm s) (he : s.length % 2 = 0)
include hs he
end
end
section
set_option linter.unusedVariables false
section
variable {s : List Nat} (hs : IsPerm s) (he : s.length % 2 = 0) {V : Nat} (hV : (sizesL s).length ≤ V)
include hs he hV
end
end
section
open Go.RowKit
set_option linter.unusedVariables false
end
section
open Go.RowKit
set_option linter.unusedVariables false
end
section
open Go.RowKit
set_option linter.unusedVariables false
end
section
open Go.RowKit
set_option linter.unusedVariables false
def fndB (s:List Nat) (d:Nat):Nat→Bool
 | 0=>false
 | x+1=>fndB s d x || (nth (namesL s) x == nth (namesL s) d && nth (namesL s) (x ^^^ 1) == nth (namesL s) (d+1))
theorem fndB_iff {s:List Nat} {d:Nat}:∀ {k:Nat},fndB s d k=true↔∃ x,x<k∧nth (namesL s) x=nth (namesL s) d∧nth (namesL s) (x ^^^ 1)=nth (namesL s) (d+1)
 | 0=>by simp[fndB]
 | k+1=>by
  unfold fndB
  rw[Bool.or_eq_true,fndB_iff,Bool.and_eq_true,beq_iff_eq,beq_iff_eq]
  constructor
  ·rintro (⟨x,h1,h2⟩|h)
   ·exact⟨x,by omega,h2⟩
   ·exact⟨k,by omega,h⟩
  ·rintro⟨x,h1,h2⟩
   by_cases e:x=k
   ·subst e;exact Or.inr h2
   ·exact Or.inl ⟨x,by omega,h2⟩
theorem fndB_dbl {s:List Nat} {e:Nat} (hl:¬ loopB s e=true):fndB s (2*e) (2*e)=dblB s e:=by
 rw[Bool.eq_iff_iff,fndB_iff]
 unfold dblB
 simp only[Bool.and_eq_true,List.any_eq_true,List.mem_range,Bool.not_eq_true']
 constructor
 ·rintro⟨x,hx,h1,h2⟩
  refine⟨by simpa using hl,x / 2,by omega,?_⟩
  unfold pairB
  simp only[Bool.or_eq_true,Bool.and_eq_true,beq_iff_eq]
  rw[xor_one] at h2
  by_cases hx2:x % 2=0
  ·rw[if_pos hx2] at h2
   rw[show 2*(x / 2)=x by omega]
   exact Or.inl ⟨h1,h2⟩
  ·rw[if_neg hx2] at h2
   rw[show 2*(x / 2)+1=x by omega,show 2*(x / 2)=x-1 by omega]
   exact Or.inr ⟨h2,h1⟩
 ·rintro⟨_,f,hf,hp⟩
  unfold pairB at hp
  simp only[Bool.or_eq_true,Bool.and_eq_true,beq_iff_eq] at hp
  rcases hp with ⟨h1,h2⟩|⟨h1,h2⟩
  ·exact⟨2*f,by omega,h1,by rw[xor_even];exact h2⟩
  ·exact⟨2*f+1,by omega,h2,by rw[xor_odd];exact h1⟩
set_option maxRecDepth 100000 in
set_option maxHeartbeats 4000000 in
theorem r8doubles_any (R:Reg) (w:World) (hI:Inv R w) (v:Value) (s:List Nat) (root lone:Int) (hv:FreeI R w v (toI s)) (hs:IsPerm s) (hn:s.length≤131073) (he2:s.length % 2=0):
  Calls Tryz.prog 58 #[refV v root lone] w (RetE R w (.int .i64 (dblsL s:Nat))):=by
 obtain⟨a0,cap0,rfl,hv⟩:=hv.open
 rw[toI_length] at hv ⊢
 have he0:Ev R w R (w.alloc (.cells #[.slice a0 s.length cap0,.int .i64 root,.int .i64 lone] 27)):=(Ev.refl hI).alloc _
 have HN:=Lib.hid (rnames_any R _ he0.inv _ s (hv.ev he0) hs (by omega))
 obtain⟨n,hl⟩:∃ n,s.length=n:=⟨_,rfl⟩
 obtain⟨E,hE⟩:∃ E,n / 2=E:=⟨_,rfl⟩
 have hEn:2*E=n:=by omega
 have HNl:Hid ((namesL s).length=n):=Lib.hid (by rw[namesL_length,hl])
 have HA:Hid (dblsL s=dblsTo s E):=Lib.hid (by unfold dblsL;rw[hl,hE])
 have HXL:=Lib.hid (fun x (hx:x<n)=>xor_one_lt (n:=n) (by omega) hx)
 have HMT:=Lib.hid rmate_any
 rw[hl] at hn HN he0 ⊢
 have HE0:=Lib.hid he0
 have HLb:=Lib.hid (fun e=>dblsTo_le s e)
 unfold refV
 clear hI hv hs hE he0 hl he2
 subst hEn
 go_enter Tryz.func58,Tryz.ntmps58
 go_wp2_with fail
 refine HN.out.mono ?_
 rintro e w1 ⟨v,rfl,he,ho⟩
 obtain⟨a,c,rfl,hf⟩:=ho.free.open
 rw[HNl.out] at hf ⊢
 have HE1:=Lib.hid he
 have HF:=Lib.hid hf
 clear he ho hf
 go_wp2_with fail
 go_loopg [3,5] E (fun gg v3 v5 wr=>∃ e:Nat,e≤E∧E-e≤gg∧v3=.int .i64 ((dblsTo s e:Nat):Int)∧v5=.int .i64 (2*(e:Int))∧Ev R w1 R wr)
 case atStart=>exact⟨0,by omega,by omega,rfl,rfl,Ev.refl HE1.out.inv⟩
 case round=>
  obtain⟨e,he,hg,rfl,rfl,hev⟩:=hrel
  have HE:=Lib.hid hev
  have hb:=HLb.out e
  have HSu:=Lib.hid (dblsTo_succ s e)
  obtain⟨c,hc⟩:∃ c,dblsTo s e=c:=⟨_,rfl⟩
  rw[hc] at hb HSu ⊢
  have HC:=Lib.hid hc
  clear hev hc
  by_cases heE:e<E
  ·have hlb:loopB s e=(nth (namesL s) (2*e) == nth (namesL s) (2*e+1)):=rfl
   have HFd:=Lib.hid (fun (h:¬ loopB s e=true)=>fndB_dbl h)
   have HDn:Hid (loopB s e=true→¬ dblB s e=true):=Lib.hid (fun h=>by unfold dblB;rw[h];simp)
   obtain⟨x,hx⟩:∃ x,nth (namesL s) (2*e)=x:=⟨_,rfl⟩
   obtain⟨y,hy⟩:∃ x,nth (namesL s) (2*e+1)=x:=⟨_,rfl⟩
   rw[hx,hy] at hlb
   obtain⟨d,hd⟩:∃ d,2*e=d:=⟨_,rfl⟩
   have hdi:2*(e:Int)=(d:Int):=by omega
   rw[hd] at hx hy HFd
   rw[hdi]
   have hd2:d+1<2*E:=by omega
   have HLB:=Lib.hid hlb
   have HDI:=Lib.hid hdi
   have HX:=Lib.hid hx
   have HY:=Lib.hid hy
   have HDD:=Lib.hid hd
   clear hx hy hlb hdi hd
   go_wp2_with fail
   go_loopg [6,7] d (fun gg v6 v7 wx=>∃ (k:Nat) (b:Bool),k≤d∧d-k≤gg∧v6=.bool b∧b=fndB s d k∧v7=.int .i64 (k:Int)∧Ev R w1 R wx)
   case atStart=>exact⟨0,false,by omega,by omega,rfl,rfl,rfl,HE.out⟩
   case round=>
    obtain⟨k,b,hk,hg2,rfl,hb2,rfl,he⟩:=hrel
    have HEk:=Lib.hid he
    have HB:=Lib.hid hb2
    clear he hb2
    by_cases hkd:k<d
    ·have hsucc:fndB s d (k+1)=(fndB s d k || (nth (namesL s) k == nth (namesL s) d && nth (namesL s) (k ^^^ 1) == nth (namesL s) (d+1))):=rfl
     have hxl:=HXL.out k (by omega)
     obtain⟨k1,hk1⟩:∃ j,k ^^^ 1=j:=⟨_,rfl⟩
     have HMq:Hid (∀ w':World,Calls Tryz.prog 9 #[.int .i64 (k:Int)] w' fun e w1=>e=.returned (.int .i64 (k1:Int))∧w1=w'):=Lib.hid (fun w'=>(HMT.out w' k (by omega)).mono (by rintro e w1 ⟨rfl,rfl⟩;exact⟨by rw[hk1],rfl⟩))
     rw[hk1] at hsucc hxl
     obtain⟨_,_,e1,c1⟩:=(HF.out.ev HEk.out).1.cell (i:=k) (by rw[HNl.out];omega)
     cases e1
     obtain⟨_,_,e1,c2⟩:=(HF.out.ev HEk.out).1.cell (i:=d) (by rw[HNl.out];omega)
     cases e1
     obtain⟨_,_,e1,c3⟩:=(HF.out.ev HEk.out).1.cell (i:=k1) (by rw[HNl.out];omega)
     cases e1
     obtain⟨_,_,e1,c4⟩:=(HF.out.ev HEk.out).1.cell (i:=d+1) (by rw[HNl.out];omega)
     cases e1
     rw[HX.out] at c2 hsucc
     rw[HY.out] at c4 hsucc
     obtain⟨u,hu⟩:∃ u,nth (namesL s) k=u:=⟨_,rfl⟩
     obtain⟨z,hz⟩:∃ u,nth (namesL s) k1=u:=⟨_,rfl⟩
     rw[hu] at c1 hsucc
     rw[hz] at c3 hsucc
     rw[←HB.out] at hsucc
     have HSc:=Lib.hid hsucc
     clear hsucc hk1 hu hz
     cases b with
     | true=>
      go_wp2_with fail
      go_quiet (fail)
      go_wp2_with fail
      go_roundg (d-(k+1))
      case measure=>omega
      case rel=>exact⟨k+1,true,by omega,by omega,rfl,by rw[HSc.out];rfl,by go_num,HEk.out.drewN _⟩
     | false=>
      by_cases hux:u=x
      ·have g1:(u == x)=true:=by rw[beq_iff_eq];exact hux
       by_cases hzy:z=y
       ·have g2:(z == y)=true:=by rw[beq_iff_eq];exact hzy
        have HSt:Hid (fndB s d (k+1)=true):=Lib.hid (by rw[HSc.out,g1,g2];rfl)
        clear hux hzy HSc
        go_wp2_with fail
        go_quiet ((go_at_call 9;exact Calls.quiet_of_same (HMq.out _)))
        go_wp2_with fail
        go_roundg (d-(k+1))
        case measure=>omega
        case rel=>exact⟨k+1,true,by omega,by omega,rfl,HSt.out.symm,by go_num,HEk.out.drewN _⟩
       ·have g2:(z == y)=false:=by rw[beq_eq_false_iff_ne];exact hzy
        have HSt:Hid (fndB s d (k+1)=false):=Lib.hid (by rw[HSc.out,g1,g2];rfl)
        clear hux hzy HSc
        go_wp2_with fail
        go_quiet ((go_at_call 9;exact Calls.quiet_of_same (HMq.out _)))
        go_wp2_with fail
        go_roundg (d-(k+1))
        case measure=>omega
        case rel=>exact⟨k+1,false,by omega,by omega,rfl,HSt.out.symm,by go_num,HEk.out.drewN _⟩
      ·have g1:(u == x)=false:=by rw[beq_eq_false_iff_ne];exact hux
       have HSt:Hid (fndB s d (k+1)=false):=Lib.hid (by rw[HSc.out,g1];rfl)
       clear hux HSc
       go_wp2_with fail
       go_quiet ((go_at_call 9;exact Calls.quiet_of_same (HMq.out _)))
       go_wp2_with fail
       go_roundg (d-(k+1))
       case measure=>omega
       case rel=>exact⟨k+1,false,by omega,by omega,rfl,HSt.out.symm,by go_num,HEk.out.drewN _⟩
    ·obtain rfl:k=d:=by omega
     obtain⟨_,_,e1,c2⟩:=(HF.out.ev HEk.out).1.cell (i:=k) (by rw[HNl.out];omega)
     cases e1
     obtain⟨_,_,e1,c4⟩:=(HF.out.ev HEk.out).1.cell (i:=k+1) (by rw[HNl.out];omega)
     cases e1
     rw[HX.out] at c2
     rw[HY.out] at c4
     cases b with
     | false=>
      have HS2:Hid (dblsTo s (e+1)=c):=Lib.hid (by
       rw[HSu.out,if_neg];rfl
       intro h
       by_cases hl:loopB s e=true
       ·exact HDn.out hl h
       ·rw[←HFd.out hl,←HB.out] at h;cases h)
      go_wp2_with fail
      go_quiet (fail)
      go_wp2_with fail
      go_roundg (E-(e+1))
      case measure=>omega
      case rel=>exact⟨e+1,by omega,by omega,by rw[HS2.out],by have:=HDI.out;congr 1;omega,HEk.out.drewN _⟩
     | true=>
      by_cases hxy:x=y
      ·have g1:(x != y)=false:=by rw[bne_eq_false_iff_eq];exact hxy
       have HS2:Hid (dblsTo s (e+1)=c):=Lib.hid (by
        rw[HSu.out,if_neg (HDn.out (by rw[HLB.out,beq_iff_eq];exact hxy))];rfl)
       clear hxy
       go_wp2_with fail
       go_quiet (fail)
       go_wp2_with fail
       go_roundg (E-(e+1))
       case measure=>omega
       case rel=>exact⟨e+1,by omega,by omega,by rw[HS2.out],by have:=HDI.out;congr 1;omega,HEk.out.drewN _⟩
      ·have g1:(x != y)=true:=by rw[bne_iff_ne];exact hxy
       have HS2:Hid (dblsTo s (e+1)=c+1):=Lib.hid (by
        rw[HSu.out,if_pos (by rw[←HFd.out (by rw[HLB.out,beq_iff_eq];exact hxy),←HB.out])])
       clear hxy
       go_wp2_with fail
       go_quiet (fail)
       go_wp2_with fail
       go_roundg (E-(e+1))
       case measure=>omega
       case rel=>exact⟨e+1,by omega,by omega,by rw[HS2.out];go_num,by have:=HDI.out;congr 1;omega,HEk.out.drewN _⟩
  ·obtain rfl:e=E:=by omega
   go_wp2_with fail
   go_ret
   exact⟨ret_int (by rw[HA.out,HC.out]),HE0.out.trans (HE1.out.trans HE.out)⟩
end
end Go.Proofs.YtgphnkkdmlohlaaGreatDoor
