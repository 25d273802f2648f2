/- shell.Corners: of nil, of what is no triangulation, of a triangulation. -/
import Derived.Test.YtgphnkkdmlohlaaGreatDoorZWoodNo20
import Derived.Test.YtgphnkkdmlohlaaGreatDoorZWoodNo27
import Derived.Test.YtgphnkkdmlohlaaGreatDoorZWoodNo17
import Derived.Test.YtgphnkkdmlohlaaGreatDoorZWoodNo28
import Derived.Test.YtgphnkkdmlohlaaGreatDoorZWoodNo24
import Derived.Test.YtgphnkkdmlohlaaGreatDoorZWoodNo33
import Derived.Test.YtgphnkkdmlohlaaGreatDoorZWoodNo25
namespace Go.Proofs.YtgphnkkdmlohlaaGreatDoor
section
open Go.RowKit
set_option linter.unusedVariables false
set_option linter.unusedSimpArgs false
theorem corners_nil (w:World):Calls Tryz.prog 63 #[.pointer none] w fun e w'=>e=.returned (.tuple #[nilS,.int .i64 2])∧w=w':=by
 go_enter Tryz.func63,Tryz.ntmps63
 go_wp2_with fail
 go_ret2
 exact⟨rfl,rfl⟩
theorem corners_no (R:Reg) (w:World) (hI:Inv R w) (p:Value) (s:List Nat) (rt:Int) (lone:Nat) (hp:MapAt R p s rt lone) (h:triB s lone=false):
  Calls Tryz.prog 63 #[p] w (RetV R w (.tuple #[nilS,.int .i64 8])):=by
 have hT:Calls Tryz.prog 89 #[p] w (RetV R w (.bool false)):=by
  have:=etri_any R w hI p s rt lone hp
  rwa [h] at this
 have HT:=Lib.hid hT
 obtain⟨b,rfl,hb⟩:=hp
 clear hT hb
 go_enter Tryz.func63,Tryz.ntmps63
 go_wp2_with fail
 refine HT.out.mono ?_
 rintro e w1 ⟨rfl,R1,he1⟩
 go_wp2_with fail
 go_ret2
 exact⟨rfl,R1,he1⟩
def cor3 (s:List Nat) (r:Nat):List Int:=[nth (namesL s) r,nth (namesL s) (at' (phiL s) r),nth (namesL s) (at' (phiL s) (at' (phiL s) r))]
def RetCor (R:Reg) (w:World) (s:List Nat) (r:Nat) (e:Ending) (w':World):Prop:=∃ v R',e=.returned (.tuple #[v,.int .i64 0])∧Ev R w R' w'∧OwnI R' w.heap.size 3 w' v (cor3 s r)
set_option maxRecDepth 100000 in
set_option maxHeartbeats 2000000 in
theorem corners_tri (R:Reg) (w:World) (hI:Inv R w) (p:Value) (s:List Nat) (r:Nat) (hp:MapAt R p s (r:Int) 0) (h:TriS s) (hr:r<s.length):
  Calls Tryz.prog 63 #[p] w (RetCor R w s r):=by
 have HT:=Lib.hid (fun R' w' (he:Ev R w R' w')=>by
  have:=etri_any R' w' he.inv p s (r:Int) 0 (he.map hp)
  rwa [h.tri_b] at this)
 have HRo:=Lib.hid (fun R' w' (he:Ev R w R' w')=>root_any R' w' he.inv p s (r:Int) 0 (he.map hp))
 have HBo:=Lib.hid (fun R' w' (he:Ev R w R' w')=>by
  have:=border_any R' w' he.inv p s (r:Int) 0 (he.map hp) (r:Int)
  rwa [orbI_in (by rw[phiL_length];exact hr),h.orb hr] at this)
 have HVx:=Lib.hid (fun R' w' (he:Ev R w R' w') (d:Nat) (hd:d<s.length)=>by
  have:=vertex_any R' w' he.inv p s (r:Int) 0 (he.map hp) (d:Int)
  rwa [nameI_in hd] at this)
 obtain⟨T,hT⟩:∃ T,[r,at' (phiL s) r,at' (phiL s) (at' (phiL s) r)]=T:=⟨_,rfl⟩
 rw[hT] at HBo
 have HTd:Hid (∀ i,i<3→∃ d:Nat,nth (toI T) i=(d:Int)∧d<s.length∧(cor3 s r)[i]?=some (nth (namesL s) d)):=Lib.hid fun i hi=>by
  rw[←hT]
  match i,hi with
  | 0,_=>exact⟨_,rfl,hr,rfl⟩
  | 1,_=>exact⟨_,rfl,h.phl hr,rfl⟩
  | 2,_=>exact⟨_,rfl,h.phl (h.phl hr),rfl⟩
 have hTl:(toI T).length=3:=by rw[←hT];rfl
 have HL:=Lib.hid hTl
 have HI:=Lib.hid hI
 obtain⟨C,hC⟩:∃ C,cor3 s r=C:=⟨_,rfl⟩
 have hCl:C.length=3:=by rw[←hC];rfl
 unfold RetCor
 rw[hC] at HTd ⊢
 have HCl:=Lib.hid hCl
 obtain⟨TI,hTI⟩:∃ TI,toI T=TI:=⟨_,rfl⟩
 rw[hTI] at HTd HL HBo
 obtain⟨b,rfl,hb⟩:=hp
 clear h hI hT hTl hCl hC hb hTI
 go_enter Tryz.func63,Tryz.ntmps63
 go_wp2_with fail
 refine (HT.out _ _ (Ev.refl HI.out)).mono ?_
 rintro e w1 ⟨rfl,R1,he1⟩
 have HE1:=Lib.hid he1
 clear he1
 go_wp2_with fail
 refine (HRo.out _ _ HE1.out).mono ?_
 rintro e w2 ⟨rfl,rfl⟩
 go_wp2_with fail
 refine (HBo.out _ _ HE1.out).mono ?_
 rintro e w6 ⟨v6,rfl,he6,ho6⟩
 obtain⟨a6,c6,rfl,_⟩:=ho6.ints.open
 rw[HL.out] at ho6 ⊢
 have HE6:=Lib.hid (HE1.out.trans he6)
 have HO6:=Lib.hid ho6
 have HZ6:=Lib.hid he6.size
 clear he6 ho6
 go_wp2_with fail
 have hn0:=HI.out
 go_loopg [4,19] 3 (fun g v4 v19 wr=>∃ (i:Nat) (a7:Option Addr) (m7 c7:Nat) (R7:Reg),i≤3∧3-i≤g∧v4=.slice a7 m7 c7∧v19=.int .i64 (i:Int)∧Ev R w R7 wr∧OwnI R7 w1.heap.size 3 wr (.slice a6 3 c6) TI∧(∀ k,(Value.slice a7 m7 c7).ownBlock=some k→(Value.slice a6 3 c6).ownBlock≠some k)∧OwnI R7 w.heap.size 3 wr (.slice a7 m7 c7) (C.take i))
 case atStart=>exact⟨0,none,0,0,R1,by omega,by omega,rfl,rfl,HE6.out,HO6.out,fun k h=>by simp[Value.ownBlock] at h,OwnI.nil _ _ _ _⟩
 case round=>
  obtain⟨i,a7,m7,c7,R7,hi,hg,rfl,rfl,he,hf,hdis,ho⟩:=hrel
  have HDs:=Lib.hid hdis
  have HE:=Lib.hid he
  have HO:=Lib.hid ho
  have HF:=Lib.hid hf
  clear he ho hf hdis
  by_cases hil:i<3
  ·obtain⟨gb,rfl,_,_,hc,_⟩:=HF.out.headAt HL.out (i:=i) hil
   obtain⟨d,hdT,hds,hdC⟩:=HTd.out i hil
   rw[hdT] at hc
   have HV1:=Lib.hid (HVx.out _ _ HE.out d hds)
   obtain⟨v,hv⟩:∃ v,nth (namesL s) d=v:=⟨_,rfl⟩
   rw[hv] at HV1 hdC
   have HS:=Lib.hid (show C.take (i+1)=C.take i ++ [v] by rw[List.take_add_one,hdC];rfl)
   clear hdT hdC hv
   go_wp2_with fail
   refine HV1.out.mono ?_
   rintro e w8 ⟨rfl,R8,he8⟩
   have HLn:Hid ((C.take i).length≤8388607):=Lib.hid (by rw[List.length_take];omega)
   have HE8:=Lib.hid ((HE.out.trans he8).alloc (.cells #[.int .i64 v] 3))
   have HO8:=Lib.hid ((HO.out.ev he8).alloc (.cells #[.int .i64 v] 3))
   have HF8:=Lib.hid ((HF.out.ev he8).alloc (.cells #[.int .i64 v] 3))
   have hz8:w.heap.size≤w8.heap.size:=(HE.out.trans he8).size
   clear he8
   go_wp2_with (at_builtin;refine wpList_app_int (R:=R8) (B:=w.heap.size) rfl _ _ rfl HO8.out rfl ⟨w8.heap.size,0,none⟩ 1 v rfl ?h1a ?h1b ?h1c ?h1d ?_)
   case h1a=>simp
   case h1b=>exact HLn.out
   case h1c=>first|omega|(simp;omega)
   case h1d=>exact fun q hq=>HE8.out.inv.none_of_ge (by simp at hq ⊢;omega)
   intro v' w9 ho9 hg9 hs9
   obtain⟨a9,c9,rfl,_⟩:=ho9.ints.open
   have HE9:=Lib.hid (HE8.out.app HO8.out (Nat.le_refl _) hg9)
   have HF9:=Lib.hid (HF8.out.kept hg9 (dis_ne HDs.out))
   have HO9:=Lib.hid ho9
   have hdis9:∀ k,(Value.slice a9 (C.take i ++ [v]).length c9).ownBlock=some k→(Value.slice (some ⟨gb,0,none⟩) 3 c6).ownBlock≠some k:=fun k h1 h2=>by
    rcases hs9 k h1 with h|h
    ·exact HDs.out k h h2
    ·have:=(HF8.out.lt k h2).2
     simp at this h
     omega
   have HD9:=Lib.hid hdis9
   clear ho9 hg9 hs9 hdis9
   go_wp2_with fail
   go_roundg (3-(i+1))
   case measure=>omega
   case rel=>exact⟨i+1,_,_,_,R8,by omega,by omega,rfl,by go_num,HE9.out,HF9.out,HD9.out,by rw[HS.out];exact HO9.out⟩
  ·obtain rfl:i=3:=by omega
   have hCC:C.take 3=C:=by rw[←HCl.out];exact List.take_length
   have HO':=Lib.hid (by have:=HO.out;rwa [hCC] at this:OwnI R7 w.heap.size 3 wr (.slice a7 m7 c7) C)
   go_wp2_with fail
   go_ret2
   exact⟨_,R7,rfl,HE.out,HO'.out⟩
end
section
set_option linter.unusedVariables false
set_option linter.unusedSectionVars false
section
variable {s : List Nat} (h : TriS s) {r : Nat} (hr : r < s.length) {pl : Int → Nat} (hp : Place (orderL s r) pl)
include h hr hp
end
end
section
set_option linter.unusedVariables false
set_option linter.unusedSectionVars false
def lateX (s:List Nat) (pl:Int→Nat) (x:Nat):Nat:=max (plD s pl x) (farP s pl x)
def OutIs (s:List Nat) (r:Nat) (pl:Int→Nat) (O:List Int) (P:Nat→Prop):Prop:=O.length=s.length∧∀ x,x<s.length→(P x→nth O x=colZ s r pl x)∧(¬ P x→nth O x=-1)
def paintL (s:List Nat) (r:Nat) (O:List Int) (x:Nat) (c:Int):List Int:=if outZ s r x then O else O.set x c
structure EndsAt (s:List Nat) (r:Nat) (pl:Int→Nat) (i u q J:Nat):Prop where
 ul:u<s.length
 ql:q<s.length
 uv:nth (namesL s) u=nth (orderL s r) i
 qv:nth (namesL s) q=nth (orderL s r) i
 J0:0<J
 uq:itf (at' s) J u=q
 one:∀ l,l<J→itf (at' s) l u≠q
 all:∀ y,y<s.length→nth (namesL s) y=nth (orderL s r) i→Ahd s pl y→∃ l,l≤J∧y=itf (at' s) l u
 ahd:∀ l,l≤J→Ahd s pl (itf (at' s) l u)
 cu:outZ s r u=false→colZ s r pl u=1
 cq:outZ s r q=false→colZ s r pl q=2
 mu:colZ s r pl (u ^^^ 1)=-1
 mq:colZ s r pl (q ^^^ 1)=-1
 ci:∀ l,0<l→l<J→colZ s r pl (itf (at' s) l u)=-1∧(outZ s r (itf (at' s) l u)=false→colZ s r pl (itf (at' s) l u ^^^ 1)=0)
section
variable {s : List Nat} (h : TriS s) {r : Nat} (hr : r < s.length) {pl : Int → Nat} (hp : Place (orderL s r) pl)
include h hr hp
theorem ends_at {i:Nat} (h2:2≤i) (hi:i<(sizesL s).length):∃ u q J,EndsAt s r pl i u q J ∧
  (nth (orderL s r) i=nth (namesL s) (at' (phiL s) (at' (phiL s) r))→u=at' (phiL s) (at' (phiL s) r)∧q=at' (phiL s) r ^^^ 1) ∧
  (nth (orderL s r) i≠nth (namesL s) (at' (phiL s) (at' (phiL s) r))→∃ j,RunAt s pl (nth (orderL s r) i) q u j J∧1<j):=by
 have l1:=h.phl hr
 have l2:=h.phl l1
 have hpi:=plc h hr hp hi
 by_cases hc:nth (orderL s r) i=nth (namesL s) (at' (phiL s) (at' (phiL s) r))
 ·obtain⟨u,hu⟩:∃ u,at' (phiL s) (at' (phiL s) r)=u:=⟨_,rfl⟩
  rw[hu] at hc l2 ⊢
  obtain⟨m,m0,m1,mi,mc,_⟩:=orb_full h l2
  have io:=it_in h hr hp l2
  have qm:=xor_one_lt h.even l1
  have elast:itf (at' s) (m-1) u=at' (phiL s) r ^^^ 1:=by
   have e1:at' s (itf (at' s) (m-1) u)=u:=by rw[←itf_succ (at' s),show m-1+1=m by omega];exact m1
   have e2:at' s (at' (phiL s) r ^^^ 1)=u:=by rw[←h.phi_at l1];exact hu
   exact h.perm.pm.inj (io _).1 qm (by rw[e1,e2])
  have m2:1<m:=by
   rcases Nat.lt_or_ge 1 m with q|q
   ·exact q
   ·exfalso
    have:m=1:=by omega
    rw[this] at m1
    exact turn_ne h l2 m1
  have ecn:cornZ s r u=true:=by unfold cornZ;rw[hu];simp
  have cr:cornZ s r r=true:=by unfold cornZ;simp
  have c1:cornZ s r (at' (phiL s) r)=true:=by unfold cornZ;simp
  have ou:outZ s r u=true:=by
   have e:nth (namesL s) (u ^^^ 1)=nth (namesL s) r:=by rw[←names_phi h.perm h.even l2,←hu,(h.three r hr).1]
   unfold outZ
   rw[ecn,Bool.true_and]
   unfold cornZ at cr ⊢
   rw[e];exact cr
  have oq:outZ s r (at' (phiL s) r ^^^ 1)=true:=by
   unfold outZ
   rw[xor_one_one,c1,Bool.and_true]
   have e:nth (namesL s) (at' (phiL s) r ^^^ 1)=nth (namesL s) u:=by rw[←names_phi h.perm h.even l1,hu]
   unfold cornZ at ecn ⊢
   rw[e];exact ecn
  have p2:=plc_last h hr hp
  rw[hu] at p2
  have all:∀ y,y<s.length→nth (namesL s) y=nth (namesL s) u→Ahd s pl y:=fun y hy k=>by
   have k1:=far_own h hr hp hy
   have k2:=far_lt h hr hp hy
   have k3:plD s pl y=(sizesL s).length-1:=by unfold plD;rw[k];exact p2
   show farP s pl y<plD s pl y
   omega
  refine⟨u,at' (phiL s) r ^^^ 1,m-1,⟨l2,qm,hc.symm,?_,by omega,elast,fun l hl e=>?_,fun y hy e _=>?_,fun l hl=>all _ (io l).1 (io l).2,fun o=>?_,fun o=>?_,?_,?_,fun l l0 l1'=>?_⟩,fun _=>⟨rfl,rfl⟩,fun n=>absurd hc n⟩
  ·rw[hc,←names_phi h.perm h.even l1,hu]
  ·have:=mi l (m-1) (by omega) (by omega) (by rw[e,elast]);omega
  ·obtain⟨l,l1,l2⟩:=mc y hy (by rw[e,hc])
   exact⟨l,by omega,l2⟩
  ·rw[ou] at o;cases o
  ·rw[oq] at o;cases o
  ·exact col_outer h hr hp (by rw[outZ_mate,ou])
  ·exact col_outer h hr hp (by rw[outZ_mate,oq])
  ·by_cases o:outZ s r (itf (at' s) l u)=true
   ·exact⟨col_outer h hr hp o,fun k=>by rw[o] at k;cases k⟩
   ·have k:=corner_zero h hr hp (io l).1 (by rw[(io l).2,hu]) (by simpa using o)
    exact⟨k.1,fun _=>k.2⟩
 ·obtain⟨x,hx,ex⟩:∃ x,x<s.length∧nth (namesL s) x=nth (orderL s r) i:=by
   have hm:=(order_mem h hr _).1 (nth_mem (l:=orderL s r) (i:=i) (by rw[order_len h hr];exact hi))
   obtain⟨x,hx,e⟩:=h.named (v:=(nth (orderL s r) i).toNat) (by omega)
   exact⟨x,hx,by omega⟩
  have ncr:cornZ s r x=false:=by
   cases e:cornZ s r x
   ·rfl
   ·have:=(corn_iff h hr hp hx).1 e
    have e2:plD s pl x=i:=by unfold plD;rw[ex];exact hpi
    have e3:i=(sizesL s).length-1:=by omega
    exact absurd (by rw[e3];exact order_last h hr) hc
  obtain⟨q,u,j,J,m,k⟩:=six_at h hr hp hx ncr
  rw[ex] at k
  have outv:∀ y,nth (namesL s) y=nth (orderL s r) i→outZ s r y=false:=fun y e=>by
   unfold outZ
   have:cornZ s r y=false:=by unfold cornZ at ncr ⊢;rw[e,←ex];exact ncr
   rw[this];rfl
  have mj:=k.mj
  have m0:=k.m0
  refine⟨u,q,J,⟨k.run.ul,k.run.ql,k.run.uv,k.run.qv,?_,k.run.uq,k.run.one,fun y hy e a=>?_,k.run.yes,fun _=>k.o1.1,fun _=>k.o2.1,k.o1.2,k.o2.2,fun l l0 l1=>⟨(k.i0 l l0 l1).1,fun _=>(k.i0 l l0 l1).2⟩⟩,fun e=>absurd e hc,fun _=>⟨j,k.run,by omega⟩⟩
  ·rcases Nat.eq_zero_or_pos J with e|e
   ·have:=k.run.uq
    rw[e] at this
    exact absurd this.symm k.run.ne
   ·exact e
  ·rcases k.run.cases h hy e with ⟨l,l0,l1,l2⟩|⟨l,l1,l2⟩
   ·exact absurd (by rw[←l2];exact a) (k.run.no l l0 l1)
   ·exact⟨l,l1,l2⟩
theorem OutIs.paint {O:List Int} {P:Nat→Prop} (ho:OutIs s r pl O P) {x:Nat} (hx:x<s.length) {c:Int} (hc:outZ s r x=false→c=colZ s r pl x):OutIs s r pl (paintL s r O x c) (fun y=>P y∨y=x):=by
 unfold paintL
 cases e:outZ s r x
 ·rw[hc e]
  refine⟨by simpa using ho.1,fun y hy=>?_⟩
  rw[show (if false=true then O else O.set x (colZ s r pl x))=O.set x (colZ s r pl x) from rfl,nth_set (by rw[ho.1];exact hx)]
  by_cases q:x=y
  ·rw[if_pos q];subst q;exact⟨fun _=>rfl,fun n=>absurd (.inr rfl) n⟩
  ·rw[if_neg q]
   exact⟨fun k=>(ho.2 y hy).1 (by rcases k with k|k;exact k;exact absurd k.symm q),fun n=>(ho.2 y hy).2 fun k=>n (.inl k)⟩
 ·refine⟨ho.1,fun y hy=>?_⟩
  show (_→nth O y=_)∧(_→nth O y=_)
  by_cases q:P y
  ·exact⟨fun _=>(ho.2 y hy).1 q,fun n=>absurd (.inl q) n⟩
  ·refine⟨fun k=>?_,fun n=>(ho.2 y hy).2 q⟩
   rcases k with k|k
   ·exact absurd k q
   ·rw[(ho.2 y hy).2 q,k,col_outer h hr hp e]
theorem OutIs.to {O:List Int} {P Q:Nat→Prop} (ho:OutIs s r pl O P) (h1:∀ y,y<s.length→P y→Q y) (h2:∀ y,y<s.length→Q y→¬ P y→colZ s r pl y=-1):OutIs s r pl O Q:=⟨ho.1,fun y hy=>by
 by_cases q:P y
 ·exact⟨fun _=>(ho.2 y hy).1 q,fun n=>absurd (h1 y hy q) n⟩
 ·exact⟨fun k=>by rw[(ho.2 y hy).2 q,h2 y hy k q],fun _=>(ho.2 y hy).2 q⟩⟩
def PartP (s:List Nat) (pl:Int→Nat) (i u l y:Nat):Prop:=lateX s pl y<i∨y=u∨∃ l',0<l'∧l' < l∧y=itf (at' s) l' u ^^^ 1
theorem OutIs.start:OutIs s r pl (List.replicate s.length (-1)) (fun y=>lateX s pl y<2):=by
 refine⟨by simp,fun y hy=>⟨fun k=>?_,fun _=>by rw[nth_at (by simpa using hy)];simp⟩⟩
 rw[nth_at (by simpa using hy),List.getElem_replicate]
 have hm:=xor_one_lt h.even hy
 unfold lateX farP at k
 refine (col_outer h hr hp ?_).symm
 unfold outZ
 rw[(corn_iff h hr hp hy).2 (.inl (by omega)),(corn_iff h hr hp hm).2 (.inl (by omega))]
 rfl
variable {i u q J : Nat} (hE : EndsAt s r pl i u q J) (hi : i < (sizesL s).length)
include hE hi
theorem EndsAt.late {l:Nat} (hl:l≤J):lateX s pl (itf (at' s) l u)=i∧lateX s pl (itf (at' s) l u ^^^ 1)=i:=by
 have io:=it_in h hr hp hE.ul l
 have a:farP s pl (itf (at' s) l u)<plD s pl (itf (at' s) l u):=hE.ahd l hl
 have e:plD s pl (itf (at' s) l u)=i:=by unfold plD;rw[io.2,hE.uv];exact plc h hr hp hi
 have e2:plD s pl (itf (at' s) l u ^^^ 1)=farP s pl (itf (at' s) l u):=rfl
 have e3:farP s pl (itf (at' s) l u ^^^ 1)=plD s pl (itf (at' s) l u):=by unfold farP;rw[xor_one_one]
 unfold lateX
 omega
theorem EndsAt.first {O:List Int} (ho:OutIs s r pl O (fun y=>lateX s pl y<i)):OutIs s r pl (paintL s r O u 1) (PartP s pl i u 1):=
 OutIs.to h hr hp (OutIs.paint h hr hp ho hE.ul fun o=>(hE.cu o).symm) (fun y _ k=>by
  rcases k with k|k
  ·exact .inl k
  ·exact .inr (.inl k)) (fun y _ k n=>by
  rcases k with k|k|⟨l',k1,k2,_⟩
  ·exact absurd (.inl k) n
  ·exact absurd (.inr k) n
  ·omega)
theorem EndsAt.next {O:List Int} {l:Nat} (l0:0<l) (hl:l<J) (ho:OutIs s r pl O (PartP s pl i u l)):OutIs s r pl (paintL s r O (itf (at' s) l u ^^^ 1) 0) (PartP s pl i u (l+1)):=
 OutIs.to h hr hp (OutIs.paint h hr hp ho (xor_one_lt h.even (it_in h hr hp hE.ul l).1) fun o=>((hE.ci l l0 hl).2 (by rw[outZ_mate] at o;exact o)).symm) (fun y _ k=>by
  rcases k with (k|k|⟨l',k1,k2,k3⟩)|k
  ·exact .inl k
  ·exact .inr (.inl k)
  ·exact .inr (.inr ⟨l',k1,by omega,k3⟩)
  ·exact .inr (.inr ⟨l,l0,by omega,k⟩)) (fun y _ k n=>by
  rcases k with k|k|⟨l',k1,k2,k3⟩
  ·exact absurd (.inl (.inl k)) n
  ·exact absurd (.inl (.inr (.inl k))) n
  ·rcases Nat.lt_or_ge l' l with w|w
   ·exact absurd (.inl (.inr (.inr ⟨l',k1,w,k3⟩))) n
   ·have:l'=l:=by omega
    rw[this] at k3
    exact absurd (.inr k3) n)
theorem EndsAt.done {O:List Int} (ho:OutIs s r pl O (PartP s pl i u J)):OutIs s r pl (paintL s r O q 2) (fun y=>lateX s pl y<i+1):=
 OutIs.to h hr hp (OutIs.paint h hr hp ho hE.ql fun o=>(hE.cq o).symm) (fun y _ k=>by
  rcases k with (k|k|⟨l',k1,k2,k3⟩)|k
  ·omega
  ·have:=(hE.late h hr hp hi (l:=0) (Nat.zero_le _)).1
   rw[show itf (at' s) 0 u=u from rfl,←k] at this
   omega
  ·have:=(hE.late h hr hp hi (l:=l') (by omega)).2
   rw[←k3] at this
   omega
  ·have:=(hE.late h hr hp hi (l:=J) (Nat.le_refl _)).1
   rw[hE.uq,←k] at this
   omega) (fun y hy k' n=>by
  have k:lateX s pl y<i+1:=k'
  have k1:¬ lateX s pl y<i:=fun w=>n (.inl (.inl w))
  have hm:=xor_one_lt h.even hy
  have own:=far_own h hr hp hy
  rcases Nat.lt_or_ge (farP s pl y) (plD s pl y) with w|w
  ·have e0:plD s pl y=i:=by unfold lateX at k k1;omega
   have e:pl (nth (namesL s) y)=i:=e0
   have e2:nth (namesL s) y=nth (orderL s r) i:=by rw[←(place_of h hr hp hy).2,e]
   obtain⟨l,l1,l2⟩:=hE.all y hy e2 w
   rcases Nat.eq_zero_or_pos l with z|z
   ·rw[z] at l2;exact absurd (.inl (.inr (.inl l2))) n
   ·rcases Nat.lt_or_ge l J with z2|z2
    ·rw[l2];exact (hE.ci l z z2).1
    ·have:l=J:=by omega
     rw[this,hE.uq] at l2
     exact absurd (.inr l2) n
  ·have e0:farP s pl y=i:=by unfold lateX at k k1;omega
   have e:pl (nth (namesL s) (y ^^^ 1))=i:=e0
   have e2:nth (namesL s) (y ^^^ 1)=nth (orderL s r) i:=by rw[←(place_of h hr hp hm).2,e]
   have a:Ahd s pl (y ^^^ 1):=by
    show plD s pl (y ^^^ 1 ^^^ 1)<plD s pl (y ^^^ 1)
    rw[xor_one_one]
    show plD s pl y<farP s pl y
    omega
   obtain⟨l,l1,l2⟩:=hE.all _ hm e2 a
   have ey:y=itf (at' s) l u ^^^ 1:=by rw[←l2,xor_one_one]
   rcases Nat.eq_zero_or_pos l with z|z
   ·rw[z] at ey;rw[ey];exact hE.mu
   ·rcases Nat.lt_or_ge l J with z2|z2
    ·exact absurd (.inl (.inr (.inr ⟨l,z,z2,ey⟩))) n
    ·have:l=J:=by omega
     rw[this,hE.uq] at ey
     rw[ey];exact hE.mq)
end
def woodL (s:List Nat) (r:Nat) (pl:Int→Nat):List Int:=(List.range s.length).map fun x=>colZ s r pl x
theorem woodL_length (s:List Nat) (r:Nat) (pl:Int→Nat):(woodL s r pl).length=s.length:=by simp[woodL]
theorem woodL_at {s:List Nat} {r:Nat} {pl:Int→Nat} {x:Nat} (hx:x<s.length):nth (woodL s r pl) x=colZ s r pl x:=by
 rw[nth_at (by rw[woodL_length];exact hx)]
 simp[woodL]
section
variable {s : List Nat} (h : TriS s) {r : Nat} (hr : r < s.length) {pl : Int → Nat} (hp : Place (orderL s r) pl)
include h hr hp
theorem OutIs.all {O:List Int} (ho:OutIs s r pl O (fun y=>lateX s pl y<(sizesL s).length)):O=woodL s r pl:=by
 refine ext_nth (by rw[ho.1,woodL_length]) fun x hx=>?_
 rw[ho.1] at hx
 rw[woodL_at hx]
 refine (ho.2 x hx).1 ?_
 have k1:=far_lt h hr hp hx
 have k2:=pl_ltV h hr hp hx
 show max _ _<_
 unfold plD at *
 omega
end
end
section
open Go.RowKit
set_option linter.unusedVariables false
theorem nodup_len {v:List Nat} (hn:v.Nodup) {N:Nat} (h:∀ x,x∈v→x<N):v.length≤N:=by
 by_cases hl:v.length≤N
 ·exact hl
 ·obtain⟨a,b,hab,hb,e⟩:=pigeon N (fun k=>at' v k) (fun k hk=>h _ (by rw[at'_eq (by omega)];exact List.getElem_mem _))
  simp only[at'_eq (show a<v.length by omega),at'_eq (show b<v.length by omega)] at e
  have:=nodup_inj hn (by omega) (by omega) e
  omega
theorem RowsF.sm {xss:List (List Nat)} {D:Nat→Prop} {f:Nat→Nat} (h:RowsF xss D f) {N:Nat} (hD:∀ y,D y→y<N) (hN:N≤100000) (hl:xss.length≤100000):RowsSm xss:=by
 refine⟨hl,fun i hi=>?_⟩
 have hm:xss.getD i []∈xss:=by simp[List.getD,hi]
 have hlt:∀ x,x∈xss.getD i []→x<N:=fun x hx=>hD x ((h.mem x).1 (List.mem_flatten.2 ⟨_,hm,hx⟩))
 exact⟨Nat.le_trans (nodup_len (h.rowNd hm) hlt) hN,fun x hx=>by have:=hlt x hx;omega⟩
theorem RowsOf.below {xss:List (List Nat)} {T:List Nat} (h:RowsOf xss T):∀ i,i<xss.length→∀ x,x∈xss.getD i []→x<T.length:=fun i hi x hx=>
 (h.mem x).1 (List.mem_flatten.2 ⟨xss.getD i [],by simp[List.getD,hi],hx⟩)
theorem OwnI.lit1 {R:Reg} {W:World} {B:Nat} (hI:Inv R W) (hB:B≤W.heap.size) (y:Int):OwnI R B 3 (W.alloc (.cells #[.int .i64 y] 3)) (.slice (some ⟨W.heap.size,0,none⟩) 1 1) [y]:=by
 have h:=World.ownsRow_lit (base:=B) (e:=3) (size:=1) W #[.int .i64 y] 1 hB (by simp[maxLen]) rfl
 refine⟨by simpa using h,fun k hk=>?_⟩
 simp only[Value.ownBlock,Option.some.injEq] at hk
 rw[←hk]
 exact hI.none_of_ge (Nat.le_refl _)
section
variable {a : Act} {ops : Array Oper} {Q : Exit → Act → World → Prop} {o : Oper} {rest : List Oper}
end
end
section
open Go.RowKit
set_option linter.unusedVariables false
section
variable {ops : Array Oper} {rest : List Oper} {o : Oper} {a : Act} {Q : Exit → Act → World → Prop}
end
end
section
open Go.RowKit
set_option linter.unusedVariables false
structure Trio (R:Reg) (w0:World) (b1 b2 bo:Nat) (w:World) (v4 v5 vc:Value) (Bl Gl Cl:List Int):Prop where
 ev:Ev R w0 R w
 bd:OwnI R b2 3 w v4 Bl
 gn:OwnI R b2 3 w v5 Gl
 co:OwnI R b1 3 w vc Cl
 l4:∀ k,v4.ownBlock=some k→k<bo
 l5:∀ k,v5.ownBlock=some k→k<bo
 lc:∀ k,vc.ownBlock=some k→k<bo
 sz:bo≤w.heap.size
section
variable {R : Reg} {w0 : World} {b1 b2 bo : Nat} {w : World} {v4 v5 vc : Value} {Bl Gl Cl : List Int} (h : Trio R w0 b1 b2 bo w v4 v5 vc Bl Gl Cl)
include h
end
end
section
set_option linter.unusedVariables false
theorem triTo_at {s:List Nat}:∀ {n:Nat},triTo s n=true→∀ d,d<n→at' (phiL s) (at' (phiL s) (at' (phiL s) d))=d∧at' (phiL s) d≠d
 | n+1,h,d,hd=>by
  unfold triTo at h
  rw[Bool.and_eq_true,Bool.and_eq_true] at h
  by_cases e:d=n
  ·subst e
   exact⟨beq_iff_eq.1 h.2.1,by simpa using h.2.2⟩
  ·exact triTo_at h.1 d (by omega)
theorem loopsTo_zero {s:List Nat}:∀ {n:Nat},loopsTo s n=0→∀ e,e<n→loopB s e=false
 | n+1,h,e,he=>by
  unfold loopsTo at h
  by_cases q:loopB s n=true
  ·rw[if_pos q] at h;omega
  ·rw[if_neg q] at h
   by_cases e2:e=n
   ·subst e2;simpa using q
   ·exact loopsTo_zero (by omega) e (by omega)
theorem dblsTo_zero {s:List Nat}:∀ {n:Nat},dblsTo s n=0→∀ e,e<n→dblB s e=false
 | n+1,h,e,he=>by
  unfold dblsTo at h
  by_cases q:dblB s n=true
  ·rw[if_pos q] at h;omega
  ·rw[if_neg q] at h
   by_cases e2:e=n
   ·subst e2;simpa using q
   ·exact dblsTo_zero (by omega) e (by omega)
theorem triS_of {s:List Nat} {lone:Nat} (hs:IsPerm s) (hes:s.length % 2=0) (h:triB s lone=true):TriS s∧lone=0:=by
 unfold triB simpB at h
 rw[Bool.and_eq_true,Bool.and_eq_true,Bool.and_eq_true,Bool.and_eq_true,decide_eq_true_iff,decide_eq_true_iff,decide_eq_true_iff,beq_iff_eq] at h
 obtain⟨h1,h2,h3,⟨h4,h5⟩,h6⟩:=h
 have hl:lone=0:=by
  rcases Nat.eq_zero_or_pos lone with k|k
  ·exact k
  ·have hp:partsN s=0:=by omega
   have hz:s.length=0:=by
    rcases Nat.eq_zero_or_pos s.length with q|q
    ·exact q
    ·have ho:=partsL_ord hs hes
     have b:=ho.bound (k:=0) q
     have m:=ho.mono (k:=1) (l:=s.length) (by omega) (Nat.le_refl _)
     have e:partsN s=(partsGo s s.length).2:=rfl
     have b1:(0:Int)≤nth (partsL s) 0∧nth (partsL s) 0<((partsGo s 1).2:Int):=b
     have m1:(partsGo s 1).2≤(partsGo s s.length).2:=m
     omega
   have:=sizesL_le hs
   omega
 subst hl
 have xe:∀ e,(2*e) ^^^ 1=2*e+1:=xor_even
 have xo:∀ e,(2*e+1) ^^^ 1=2*e:=xor_odd
 have hL:∀ e,2*e<s.length→nth (namesL s) (2*e)≠nth (namesL s) (2*e+1):=fun e he k=>by
  have:=loopsTo_zero h4 e (by omega)
  unfold loopB at this
  rw[k] at this
  simp at this
 have hD:∀ e f,2*e<s.length→f<e→pairB s e f=false:=fun e f he hf=>by
  have k:=dblsTo_zero h5 e (by omega)
  have kl:=loopsTo_zero h4 e (by omega)
  unfold dblB at k
  rw[kl] at k
  have k2:((List.range e).any fun f=>pairB s e f)=false:=by simpa using k
  rw[List.any_eq_false] at k2
  simpa using k2 f (List.mem_range.2 hf)
 refine⟨⟨hs,hes,by omega,fun x hx=>triTo_at h6 x hx,fun x hx=>?_,fun x y hx hy e1 e2=>?_,by omega,h3⟩,rfl⟩
 ·rcases Nat.mod_two_eq_zero_or_one x with z|z
  ·have e:x=2*(x / 2):=by omega
   rw[e,xe]
   exact hL _ (by omega)
  ·have e:x=2*(x / 2)+1:=by omega
   rw[e,xo]
   exact fun k=>hL _ (by omega) k.symm
 ·-- two darts between the same
  have key:∀ x y,x<s.length→y<s.length→nth (namesL s) x=nth (namesL s) y→nth (namesL s) (x ^^^ 1)=nth (namesL s) (y ^^^ 1)→¬ y / 2<x / 2:=fun x y hx hy e1 e2 hlt=>by
   have hd:=hD (x / 2) (y / 2) (by omega) hlt
   unfold pairB at hd
   rw[Bool.or_eq_false_iff] at hd
   rcases Nat.mod_two_eq_zero_or_one x with z|z <;> rcases Nat.mod_two_eq_zero_or_one y with u|u
   ·have ex:x=2*(x / 2):=by omega
    have ey:y=2*(y / 2):=by omega
    rw[ex,ey] at e1 e2
    rw[xe,xe] at e2
    rw[←e1,←e2] at hd
    simp at hd
   ·have ex:x=2*(x / 2):=by omega
    have ey:y=2*(y / 2)+1:=by omega
    rw[ex,ey] at e1 e2
    rw[xe,xo] at e2
    rw[←e1,←e2] at hd
    simp at hd
   ·have ex:x=2*(x / 2)+1:=by omega
    have ey:y=2*(y / 2):=by omega
    rw[ex,ey] at e1 e2
    rw[xo,xe] at e2
    rw[←e1,←e2] at hd
    simp at hd
   ·have ex:x=2*(x / 2)+1:=by omega
    have ey:y=2*(y / 2)+1:=by omega
    rw[ex,ey] at e1 e2
    rw[xo,xo] at e2
    rw[←e1,←e2] at hd
    simp at hd
  have hxy:x / 2=y / 2:=by
   have a:=key x y hx hy e1 e2
   have b:=key y x hy hx e1.symm e2.symm
   omega
  refine Classical.byContradiction fun hne=>?_
  have ex:y=2*(x / 2)∧x=2*(x / 2)+1∨y=2*(x / 2)+1∧x=2*(x / 2):=by omega
  rcases ex with ⟨ey,ex⟩|⟨ey,ex⟩
  ·rw[ey] at e1
   rw[ex] at e1
   have:2*((2*(x / 2)+1) / 2)=2*(x / 2):=by omega
   rw[this] at e1
   exact hL _ (by omega) e1.symm
  ·rw[ey] at e1
   rw[ex] at e1
   have:2*((2*(x / 2)) / 2)=2*(x / 2):=by omega
   rw[this] at e1
   exact hL _ (by omega) e1
end
section
open Go.RowKit
set_option linter.unusedVariables false
structure OwnRR (R:Reg) (B:Nat) (w:World) (st v:Value) (S:List Nat) (vs:List Value) (xss:List (List Nat)):Prop where
 ost:OwnI R B 3 w st (toI S)
 ov:OwnV R B 25 1 w v xss.length vs
 len:vs.length=xss.length
 row:∀ i,i<xss.length→OwnI R B 3 w (vs.getD i nilS) (toI (xss.getD i []))
 sv:∀ k,st.ownBlock=some k→v.ownBlock≠some k
 sr:∀ i,i<xss.length→∀ k,st.ownBlock=some k→(vs.getD i nilS).ownBlock≠some k
 vr:∀ i,i<xss.length→∀ k,v.ownBlock=some k→(vs.getD i nilS).ownBlock≠some k
 rr:∀ i j,i<xss.length→j<xss.length→i≠j→∀ k,(vs.getD i nilS).ownBlock=some k→(vs.getD j nilS).ownBlock≠some k
theorem getD_set {α:Type} {xs:List α} {i j:Nat} {x d:α} (hi:i<xs.length):(xs.set i x).getD j d=if j=i then x else xs.getD j d:=by
 rw[List.getD_eq_getElem?_getD,List.getD_eq_getElem?_getD,List.getElem?_set]
 by_cases h:i=j
 ·subst h
  rw[if_pos rfl,if_pos rfl,if_pos hi]
  rfl
 ·rw[if_neg h,if_neg (fun e=>h e.symm)]
theorem getD_app {α:Type} {xs:List α} {j:Nat} {x d:α}:(xs ++ [x]).getD j d=if j=xs.length then x else xs.getD j d:=by
 rw[List.getD_eq_getElem?_getD,List.getD_eq_getElem?_getD]
 by_cases h:j=xs.length
 ·rw[if_pos h,h];simp
 ·rw[if_neg h]
  by_cases h1:j<xs.length
  ·rw[List.getElem?_append_left h1]
  ·rw[List.getElem?_eq_none (by simp;omega),List.getElem?_eq_none (by omega)]
section
variable {R : Reg} {B : Nat} {w : World} {st v : Value} {S : List Nat} {vs : List Value} {xss : List (List Nat)} (h : OwnRR R B w st v S vs xss)
include h
theorem OwnRR.kept {w':World} {row:Option Nat} (hg:w.grownBy w' row) (hs:∀ k,row=some k→w.heap.size≤k):OwnRR R B w' st v S vs xss:=by
 have key:∀ (u:Value),(∀ k,u.ownBlock=some k→B≤k∧k<w.heap.size)→u.ownBlock=none∨u.ownBlock≠row:=fun u hu=>by
  cases e:u.ownBlock with
  | none=>exact Or.inl rfl
  | some k=>exact Or.inr fun e2=>by have:=hs k e2.symm;have:=(hu k e).2;omega
 exact⟨h.ost.kept hg (key _ h.ost.lt),h.ov.kept hg (key _ h.ov.lt),h.len,fun i hi=>(h.row i hi).kept hg (key _ (h.row i hi).lt),h.sv,h.sr,h.vr,h.rr⟩
theorem OwnRR.alloc (o:Obj):OwnRR R B (w.alloc o) st v S vs xss:=h.kept (World.grownBy_alloc w o none) (fun k e=>by cases e)
theorem OwnRR.drew:OwnRR R B w.drew st v S vs xss:=⟨h.ost.drew,h.ov.drew,h.len,fun i hi=>(h.row i hi).drew,h.sv,h.sr,h.vr,h.rr⟩
theorem OwnRR.pushS {w':World} {st':Value} {x:Nat} (ho:OwnI R B 3 w' st' (toI (S ++ [x]))) (hg:w.grownBy w' st.ownBlock) (hs:∀ k,st'.ownBlock=some k→st.ownBlock=some k∨w.heap.size≤k):OwnRR R B w' st' v (S ++ [x]) vs xss:=by
 have key:∀ (u:Value),(∀ k,st.ownBlock=some k→u.ownBlock≠some k)→u.ownBlock=none∨u.ownBlock≠st.ownBlock:=fun u hu=>by
  cases e:st.ownBlock with
  | none=>cases e2:u.ownBlock with
   | none=>exact Or.inl rfl
   | some k=>exact Or.inr (by simp)
  | some k=>exact Or.inr (hu k e)
 have old:∀ (u:Value),(∀ k,st.ownBlock=some k→u.ownBlock≠some k)→(∀ k,u.ownBlock=some k→B≤k∧k<w.heap.size)→∀ k,st'.ownBlock=some k→u.ownBlock≠some k:=fun u h1 h2 k hk e=>by
  rcases hs k hk with a|a
  ·exact h1 k a e
  ·have:=(h2 k e).2;omega
 exact⟨ho,h.ov.kept hg (key _ h.sv),h.len,fun i hi=>(h.row i hi).kept hg (key _ (h.sr i hi)),old _ h.sv h.ov.lt,fun i hi=>old _ (h.sr i hi) (h.row i hi).lt,h.vr,h.rr⟩
theorem OwnRR.more {w':World} {v':Value} (ho:OwnV R B 25 1 w' v' (xss.length+1) (vs ++ [nilS])) (hg:w.grownBy w' v.ownBlock) (hs:∀ k,v'.ownBlock=some k→v.ownBlock=some k∨w.heap.size≤k):OwnRR R B w' st v' S (vs ++ [nilS]) (xss ++ [[]]):=by
 have key:∀ (u:Value),(∀ k,v.ownBlock=some k→u.ownBlock≠some k)→u.ownBlock=none∨u.ownBlock≠v.ownBlock:=fun u hu=>by
  cases e:v.ownBlock with
  | none=>cases e2:u.ownBlock with
   | none=>exact Or.inl rfl
   | some k=>exact Or.inr (by simp)
  | some k=>exact Or.inr (hu k e)
 have old:∀ (u:Value),(∀ k,v.ownBlock=some k→u.ownBlock≠some k)→(∀ k,u.ownBlock=some k→B≤k∧k<w.heap.size)→∀ k,v'.ownBlock=some k→u.ownBlock≠some k:=fun u h1 h2 k hk e=>by
  rcases hs k hk with a|a
  ·exact h1 k a e
  ·have:=(h2 k e).2;omega
 have hsv:∀ k,v.ownBlock=some k→st.ownBlock≠some k:=fun k a b=>h.sv k b a
 have hnil:∀ k,nilS.ownBlock=some k→False:=fun k e=>by simp[nilS,Value.ownBlock] at e
 have hcase:∀ i,i<(xss ++ [[]]).length→(i<xss.length∧(vs ++ [nilS]).getD i nilS=vs.getD i nilS∧(xss ++ [[]]).getD i []=xss.getD i [])∨((vs ++ [nilS]).getD i nilS=nilS∧(xss ++ [[]]).getD i []=[]∧i=xss.length):=fun i hi=>by
  rw[getD_app,getD_app,h.len]
  by_cases e:i=xss.length
  ·exact Or.inr ⟨by rw[if_pos e],by rw[if_pos e],e⟩
  ·refine Or.inl ⟨?_,by rw[if_neg e],by rw[if_neg e]⟩
   simp at hi
   omega
 refine⟨h.ost.kept hg (key _ hsv),by rw[List.length_append];exact ho,by simp[h.len],fun i hi=>?_,fun k a b=>old _ hsv h.ost.lt k b a,fun i hi k a=>?_,fun i hi k a=>?_,fun i j hi hj hij k a=>?_⟩
 ·rcases hcase i hi with ⟨c,e1,e2⟩|⟨e1,e2,_⟩
  ·rw[e1,e2];exact (h.row i c).kept hg (key _ (h.vr i c))
  ·rw[e1,e2];exact OwnI.nil R B _ w'
 ·rcases hcase i hi with ⟨c,e1,e2⟩|⟨e1,e2,_⟩
  ·rw[e1];exact h.sr i c k a
  ·rw[e1];exact fun e=>hnil k e
 ·rcases hcase i hi with ⟨c,e1,e2⟩|⟨e1,e2,_⟩
  ·rw[e1];exact old _ (h.vr i c) (h.row i c).lt k a
  ·rw[e1];exact fun e=>hnil k e
 ·rcases hcase i hi with ⟨c,e1,e2⟩|⟨e1,e2,e3⟩
  ·rcases hcase j hj with ⟨c',e1',e2'⟩|⟨e1',e2',_⟩
   ·rw[e1] at a;rw[e1'];exact h.rr i j c c' hij k a
   ·rw[e1'];exact fun e=>hnil k e
  ·rw[e1] at a;exact absurd a (fun e=>hnil k e)
end
theorem OwnRR.push {R:Reg} {B:Nat} {w:World} {st:Value} {g n c:Nat} {S:List Nat} {vs:List Value} {xss:List (List Nat)} (h:OwnRR R B w st (.slice (some ⟨g,0,none⟩) n c) S vs xss) (hn:xss.length=n) {i:Nat} (hi:i<xss.length) {w':World} {u':Value} {x:Nat}
  (ho:OwnI R B 3 w' u' (toI (xss.getD i [] ++ [x]))) (hg:w.grownBy w' (vs.getD i nilS).ownBlock) (hs:∀ k,u'.ownBlock=some k→(vs.getD i nilS).ownBlock=some k∨w.heap.size≤k):
  OwnRR R B (w'.setCell ⟨g,i,none⟩ u') st (.slice (some ⟨g,0,none⟩) n c) S (vs.set i u') (xss.set i (xss.getD i [] ++ [x])):=by
 have hgb:(Value.slice (some ⟨g,0,none⟩) n c).ownBlock=some g:=rfl
 have hglt:=(h.ov.lt g hgb).2
 have key:∀ (u:Value),(∀ k,u.ownBlock=some k→(vs.getD i nilS).ownBlock≠some k)→u.ownBlock=none∨u.ownBlock≠(vs.getD i nilS).ownBlock:=fun u hu=>by
  cases e:u.ownBlock with
  | none=>exact Or.inl rfl
  | some k=>exact Or.inr fun e2=>hu k e e2.symm
 have new:∀ (u:Value),(∀ k,u.ownBlock=some k→(vs.getD i nilS).ownBlock≠some k)→(∀ k,u.ownBlock=some k→B≤k∧k<w.heap.size)→∀ k,u.ownBlock=some k→u'.ownBlock≠some k:=fun u h1 h2 k hk e=>by
  rcases hs k e with a|a
  ·exact h1 k hk a
  ·have:=(h2 k hk).2;omega
 have hst:st.ownBlock≠some g:=fun e=>h.sv g e hgb
 have hu'g:u'.ownBlock≠some g:=new _ (h.vr i hi) h.ov.lt g hgb
 have hil:i<vs.length:=by rw[h.len];exact hi
 have hcase:∀ j,(j=i∧(vs.set i u').getD j nilS=u'∧(xss.set i (xss.getD i [] ++ [x])).getD j []=xss.getD i [] ++ [x])∨(j≠i∧(vs.set i u').getD j nilS=vs.getD j nilS∧(xss.set i (xss.getD i [] ++ [x])).getD j []=xss.getD j []):=fun j=>by
  rw[getD_set hil,getD_set hi]
  by_cases e:j=i
  ·exact Or.inl ⟨e,by rw[if_pos e],by rw[if_pos e]⟩
  ·exact Or.inr ⟨e,by rw[if_neg e],by rw[if_neg e]⟩
 refine⟨(h.ost.kept hg (key _ (h.sr i hi))).setCell hst _,?_,by rw[List.length_set,List.length_set,h.len],fun j hj=>?_,h.sv,fun j hj k a=>?_,fun j hj k a=>?_,fun j l hj hl hjl k a=>?_⟩
 ·rw[List.length_set]
  have h1:=h.ov.kept hg (key _ (h.vr i hi))
  rw[hn] at h1 ⊢
  exact h1.put i u'
 ·rw[List.length_set] at hj
  rcases hcase j with ⟨e,e1,e2⟩|⟨e,e1,e2⟩
  ·rw[e1,e2];exact ho.setCell hu'g _
  ·rw[e1,e2];exact ((h.row j hj).kept hg (key _ (h.rr j i hj hi e))).setCell (fun k=>h.vr j hj g hgb k) _
 ·rw[List.length_set] at hj
  rcases hcase j with ⟨e,e1,e2⟩|⟨e,e1,e2⟩
  ·rw[e1];exact new _ (h.sr i hi) h.ost.lt k a
  ·rw[e1];exact h.sr j hj k a
 ·rw[List.length_set] at hj
  rcases hcase j with ⟨e,e1,e2⟩|⟨e,e1,e2⟩
  ·rw[e1];exact new _ (h.vr i hi) h.ov.lt k a
  ·rw[e1];exact h.vr j hj k a
 ·rw[List.length_set] at hj hl
  rcases hcase j with ⟨e,e1,e2⟩|⟨e,e1,e2⟩
  ·rcases hcase l with ⟨e',e1',e2'⟩|⟨e',e1',e2'⟩
   ·exact absurd (e.trans e'.symm) hjl
   ·rw[e1] at a;rw[e1']
    exact fun b=>new _ (h.rr l i hl hi e') (h.row l hl).lt k b a
  ·rcases hcase l with ⟨e',e1',e2'⟩|⟨e',e1',e2'⟩
   ·rw[e1] at a;rw[e1']
    exact new _ (h.rr j i hj hi e) (h.row j hj).lt k a
   ·rw[e1] at a;rw[e1']
    exact h.rr j l hj hl hjl k a
end
section
set_option linter.unusedVariables false
def topL (S:List Nat):Nat:=at' S (S.length-1)
def decP (L:List Int) (N:List Nat):Nat→List Nat × List (List Nat)
 | 0=>([0],[[]])
 | i+1=>
  let q:=decP L N i
  let X:=q.2.set (topL q.1) (q.2.getD (topL q.1) [] ++ [at' N i])
  if nth L i=0 then (q.1 ++ [X.length],X ++ [[]]) else if nth L i=1 then (q.1.take (q.1.length-1),X) else (q.1,X)
theorem decP_succ (L:List Int) (N:List Nat) (i:Nat):decP L N (i+1)=(let q:=decP L N i
  let X:=q.2.set (topL q.1) (q.2.getD (topL q.1) [] ++ [at' N i])
  if nth L i=0 then (q.1 ++ [X.length],X ++ [[]]) else if nth L i=1 then (q.1.take (q.1.length-1),X) else (q.1,X)):=rfl
theorem set_flat (d:Nat):∀ (X:List (List Nat)) (v:Nat),v<X.length→(X.set v (X.getD v [] ++ [d])).flatten.Perm (d :: X.flatten)
 | [],v,h=>by simp at h
 | x :: X,0,_=>by
  simp only[List.set_cons_zero,List.getD_cons_zero,List.flatten_cons,List.append_assoc]
  exact List.perm_middle
 | x :: X,v+1,h=>by
  simp only[List.set_cons_succ,List.getD_cons_succ,List.flatten_cons]
  have:=set_flat d X v (by simpa using h)
  exact (List.Perm.append_left x this).trans List.perm_middle
structure DecI (N:List Nat) (i h:Nat) (q:List Nat × List (List Nat)):Prop where
 len:q.1.length=1+h
 rows:q.2.length≤i+1
 st:∀ x,x∈q.1→x<q.2.length
 perm:q.2.flatten.Perm (N.take i)
theorem topL_mem {S:List Nat} (h:0<S.length):topL S∈S:=by
 unfold topL
 rw[at'_eq (by omega)]
 exact List.getElem_mem _
theorem decP_inv {p:Nat} {bs:List Nat} {N:List Nat} (hN:N.length=2*p):∀ i,i≤2*p→DecI N i (anyS p bs i).2.1 (decP (anyW p bs) N i)
 | 0,_=>⟨rfl,Nat.le_refl _,fun x hx=>by
   have:x=0:=by simpa [decP] using hx
   subst this;exact Nat.succ_pos _,by show List.Perm [] _;simp⟩
 | i+1,hi=>by
  have ih:=decP_inv (bs:=bs) hN i (by omega)
  have hst:=(anyK_step p bs i).2
  have hL:nth (anyW p bs) i=anyK p bs i:=anyW_nth (by omega)
  rw[decP_succ]
  dsimp only
  rw[hL]
  obtain⟨q,hq⟩:∃ q,decP (anyW p bs) N i=q:=⟨_,rfl⟩
  rw[hq] at ih ⊢
  obtain⟨i1,i2,i3,i4⟩:=ih
  have htop:topL q.1<q.2.length:=i3 _ (topL_mem (by omega))
  have hXl:(q.2.set (topL q.1) (q.2.getD (topL q.1) [] ++ [at' N i])).length=q.2.length:=List.length_set
  have hXp:(q.2.set (topL q.1) (q.2.getD (topL q.1) [] ++ [at' N i])).flatten.Perm (N.take (i+1)):=by
   refine (set_flat (at' N i) q.2 _ htop).trans ?_
   rw[List.take_succ_eq_append_getElem (by omega),at'_eq (by omega)]
   exact (List.Perm.cons _ i4).trans (List.perm_append_singleton _ _).symm
  obtain⟨X,hX⟩:∃ X,q.2.set (topL q.1) (q.2.getD (topL q.1) [] ++ [at' N i])=X:=⟨_,rfl⟩
  rw[hX] at hXl hXp ⊢
  rcases hst with ⟨k,e⟩|⟨k,e⟩|⟨k,h0,e⟩|⟨k,h0,e⟩
  ·rw[k,if_pos rfl,e]
   refine⟨by simp[i1];omega,by simp;omega,fun x hx=>?_,by simpa using hXp⟩
   rw[List.length_append,List.length_singleton]
   rcases List.mem_append.1 hx with hx|hx
   ·have:=i3 x hx;omega
   ·rw[List.mem_singleton.1 hx];omega
  ·rw[k,if_neg (by decide),if_neg (by decide),e]
   exact⟨i1,by show X.length≤_;omega,fun x hx=>by show x<X.length;rw[hXl];exact i3 x hx,hXp⟩
  ·rw[k,if_neg (by decide),if_pos rfl,e]
   refine⟨by show (q.1.take (q.1.length-1)).length=_;rw[List.length_take];omega,by show X.length≤_;omega,fun x hx=>?_,hXp⟩
   show x<X.length
   rw[hXl]
   exact i3 x (List.mem_of_mem_take hx)
  ·rw[k,if_neg (by decide),if_neg (by decide),e]
   exact⟨i1,by show X.length≤_;omega,fun x hx=>by show x<X.length;rw[hXl];exact i3 x hx,hXp⟩
theorem lay_perm {X:List (List Nat)} {N:List Nat} (hN:IsPerm N) (hp:X.flatten.Perm N):RowsOf X (layA X (List.replicate N.length 0))∧(layA X (List.replicate N.length 0)).length=N.length:=by
 have hl:(layA X (List.replicate N.length 0)).length=N.length:=by rw[layA_length,List.length_replicate]
 have hnd:X.flatten.Nodup:=hp.nodup_iff.2 hN.1
 have hmem:∀ y,y∈X.flatten↔y<N.length:=fun y=>by
  rw[hp.mem_iff]
  constructor
  ·exact hN.2 y
  ·intro hy
   obtain⟨e,hk⟩:=at_invL hN hy
   rw[←e,at'_eq hk]
   exact List.getElem_mem _
 obtain⟨h1,_⟩:=layA_at X (List.replicate N.length 0) hnd (fun x hx=>by rw[List.length_replicate];exact (hmem x).1 hx)
 exact⟨⟨hnd,fun y=>by rw[hl];exact hmem y,h1⟩,hl⟩
theorem decP_turn {p:Nat} {bs:List Nat} {N:List Nat} (hN:IsPerm N) (hl:N.length=2*p):
  IsPerm (layA (decP (anyW p bs) N (2*p)).2 (List.replicate (2*p) 0))∧(layA (decP (anyW p bs) N (2*p)).2 (List.replicate (2*p) 0)).length=2*p∧RowsOf (decP (anyW p bs) N (2*p)).2 (layA (decP (anyW p bs) N (2*p)).2 (List.replicate (2*p) 0)):=by
 have h:=(decP_inv (bs:=bs) hl (2*p) (Nat.le_refl _)).perm
 rw[List.take_of_length_le (by omega)] at h
 have h2:=lay_perm hN h
 rw[hl] at h2
 exact⟨h2.1.isPerm,h2.2,h2.1⟩
end
end Go.Proofs.YtgphnkkdmlohlaaGreatDoor
