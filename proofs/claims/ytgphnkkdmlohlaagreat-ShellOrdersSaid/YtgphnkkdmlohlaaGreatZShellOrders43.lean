/- parquetrylaw14: of, awake. -/
import Derived.Test.YtgphnkkdmlohlaaGreatZShellOrders40
import Derived.Test.YtgphnkkdmlohlaaGreatZShellOrders35
import Derived.Test.YtgphnkkdmlohlaaGreatZShellOrders13
import Derived.Test.YtgphnkkdmlohlaaGreatZShellOrders33
import Derived.Test.YtgphnkkdmlohlaaGreatZShellOrders19
import Derived.Test.YtgphnkkdmlohlaaGreatZShellOrders10
import Derived.Test.YtgphnkkdmlohlaaGreatZShellOrders37
import Derived.Test.YtgphnkkdmlohlaaGreatZShellOrders39
import Derived.Test.YtgphnkkdmlohlaaGreatZShellOrders08
import Derived.Test.YtgphnkkdmlohlaaGreatZShellOrders42
import Derived.Test.YtgphnkkdmlohlaaGreatZShellOrders36
import Derived.Test.YtgphnkkdmlohlaaGreatZShellOrders38
import Derived.Test.YtgphnkkdmlohlaaGreatZShellOrders23
import Derived.Test.YtgphnkkdmlohlaaGreatZShellOrders41
namespace Go.Proofs.YtgphnkkdmlohlaaGreat
section
open Go.RowKit
set_option linter.unusedVariables false
theorem FreeI.six14 {R:Reg} {w:World} (hI:Inv R w) (a b c d e f:Int):FreeI R (w.alloc (.cells #[.int .i64 a,.int .i64 b,.int .i64 c,.int .i64 d,.int .i64 e,.int .i64 f] 3)) (.slice (some ⟨w.heap.size,0,none⟩) 6 6) [a,b,c,d,e,f]:=by
 have h:=World.ownsRow_lit (base:=w.heap.size) (e:=3) (size:=1) w #[.int .i64 a,.int .i64 b,.int .i64 c,.int .i64 d,.int .i64 e,.int .i64 f] 6 (Nat.le_refl _) (by simp[maxLen]) rfl
 have ho:OwnI R w.heap.size 3 (w.alloc (.cells #[.int .i64 a,.int .i64 b,.int .i64 c,.int .i64 d,.int .i64 e,.int .i64 f] 3)) (.slice (some ⟨w.heap.size,0,none⟩) 6 6) [a,b,c,d,e,f]:=by
  refine⟨by simpa using h,fun k hk=>?_⟩
  simp only[Value.ownBlock,Option.some.injEq] at hk
  rw[←hk]
  exact hI.none_of_ge (Nat.le_refl _)
 exact ho.free
theorem order_three {s:List Nat} (h:TriS s) {r:Nat} (hr:r<s.length) (h3:(sizesL s).length=3):orderL s r=cor3 s r:=by
 have hl:=order_len h hr
 have e2:=order_last h hr
 rw[h3] at hl e2
 unfold cor3
 refine List.ext_getElem (by rw[hl];rfl) fun i h1 h2=>?_
 have k:∀ i,(hi:i<(orderL s r).length)→(orderL s r)[i]=nth (orderL s r) i:=fun i hi=>(nth_at hi).symm
 rw[k i h1]
 match i,h2 with
 | 0,_=>rfl
 | 1,_=>rfl
 | 2,_=>exact e2
set_option maxRecDepth 100000 in
set_option maxHeartbeats 1000000 in
theorem of14_any (R:Reg) (w:World) (hI:Inv R w) (v:Value) (s:List Nat) (root lone:Int) (hv:FreeI R w v (toI s)) (hS:IsPerm s) (hok:MapOk s root lone):
  Calls Tryz.prog 15 #[refV v root lone] w fun e w'=>∃ p R',e=.returned p∧Ev R w R' w'∧MapAt R' p s root lone:=by
 obtain⟨a0,cap0,rfl,_⟩:=hv.open
 rw[toI_length] at hv ⊢
 unfold refV
 have he1:Ev R w R (w.alloc (.cells #[.slice a0 s.length cap0,.int .i64 root,.int .i64 lone] 26)):=(Ev.refl hI).alloc _
 have HN:=Lib.hid (new_yes R _ he1.inv _ s (hv.ev he1) root lone hS hok)
 have HE1:=Lib.hid he1
 clear hI hv hS hok he1
 go_enter Tryz.func15,Tryz.ntmps15
 go_wp2_with fail
 refine HN.out.mono ?_
 rintro e w2 ⟨p,R2,rfl,he2,hp⟩
 have HE2:=Lib.hid (HE1.out.trans he2)
 have HP:=Lib.hid hp
 clear he2 hp
 go_wp2_with fail
 go_ret
 exact⟨_,R2,rfl,HE2.out,HP.out⟩
set_option maxRecDepth 100000 in
set_option maxHeartbeats 2000000 in
theorem awake14_any (R:Reg) (w:World) (hI:Inv R w):Calls Tryz.prog 13 #[] w (RetTrue R w):=by
 have hok3:MapOk [5,2,1,4,3,0] 0 0:=by unfold MapOk;simp
 have HT:=Lib.hid triS_one
 have ho3:=order_three triS_one (r:=0) (by decide) (by decide +kernel)
 have HO3:=Lib.hid ho3
 have HF:=Lib.hid (of14_any R _ (hI.alloc _) _ [5,2,1,4,3,0] 0 0 (FreeI.six14 hI 5 2 1 4 3 0) triS_one.perm hok3)
 have HE0:=Lib.hid ((Ev.refl hI).alloc (.cells #[.int .i64 5,.int .i64 2,.int .i64 1,.int .i64 4,.int .i64 3,.int .i64 0] 3))
 obtain⟨C,hC⟩:∃ C,cor3 [5,2,1,4,3,0] 0=C:=⟨_,rfl⟩
 have hCl:C.length=3:=by rw[←hC];rfl
 have HC:=Lib.hid hC
 have HCl:=Lib.hid hCl
 unfold refV at HF
 clear hI hok3 ho3 hC hCl
 go_enter Tryz.func13,Tryz.ntmps13
 go_wp2_with fail
 refine HF.out.mono ?_
 rintro e w1 ⟨p,R1,rfl,he1,hp1⟩
 have HE1:=Lib.hid (HE0.out.trans he1)
 have ho:=sorder_any R1 w1 he1.inv p _ 0 (by exact hp1) HT.out (by decide)
 unfold RetOrd at ho
 rw[HO3.out,HC.out] at ho
 have HO:=Lib.hid ho
 have HCo:=Lib.hid (fun R' w' (he:Ev R1 w1 R' w')=>by
  have hc:=corners_tri R' w' he.inv p _ 0 (he.map hp1) HT.out (by decide)
  unfold RetCor at hc
  rwa [HC.out] at hc)
 clear he1 ho hp1 HF HO3 HC
 go_wp2_with fail
 refine HO.out.mono ?_
 rintro e w2 ⟨v2,R2,rfl,he2,ho2⟩
 obtain⟨a2,c2,rfl,_⟩:=ho2.ints.open
 rw[HCl.out] at ho2 ⊢
 have HE2:=Lib.hid (HE1.out.trans he2)
 have HCo:=Lib.hid (HCo.out _ _ he2)
 have HO2:=Lib.hid ho2
 clear he2 ho2 HO
 go_wp2_with fail
 refine HCo.out.mono ?_
 rintro e w3 ⟨v3,R3,rfl,he3,ho3⟩
 obtain⟨a3,c3,rfl,_⟩:=ho3.ints.open
 rw[HCl.out] at ho3 ⊢
 have HE3:=Lib.hid (HE2.out.trans he3)
 have HEq:=Lib.hid (equal_any R3 w3 he3.inv _ _ C C ((HO2.out.ev he3).ints) ho3.ints (by rw[HCl.out];omega) (by rw[HCl.out];omega))
 rw[eqL_true rfl] at HEq
 clear he3 ho3 HCo HO2
 go_wp2_with (go_at_call 19;refine HEq.out.mono ?_;rintro e w4 ⟨rfl,he4⟩;have HE4:=Lib.hid (HE3.out.trans he4);clear he4)
 go_ret
 exact⟨by first|rfl|simp,R3,HE4.out⟩
end
section
open Go.RowKit
set_option linter.unusedVariables false
set_option linter.unusedSimpArgs false
set_option maxRecDepth 100000 in
set_option maxHeartbeats 1000000 in
theorem has14_any (w:World) (a:Option Addr) (n cap:Nat) (xs:List Int) (y:Int) (hv:Ints w (.slice a n cap) xs) (hn:n≤8388608):
  Calls Tryz.prog 74 #[.slice a n cap,.int .i64 y] w fun e w'=>e=.returned (.bool (decide (y∈xs)))∧w=w':=by
 have hl:=hv.length_eq
 have HL:=Lib.hid hl
 have HV:=Lib.hid hv
 have hin:(∀ i,i<n→nth xs i≠y)→decide (y∈xs)=false:=fun h=>decide_eq_false fun hm=>by
  obtain⟨i,hi,e⟩:=List.getElem_of_mem hm
  exact h i (by omega) (by simp[nth,hi,e])
 have hout:∀ i:Nat,i<n→nth xs i=y→decide (y∈xs)=true:=fun i hi e=>decide_eq_true (by
  have hx:nth xs i=xs[i]:=by simp[nth,show i<xs.length by omega]
  rw[←e,hx]
  exact List.getElem_mem _)
 have HIN:=Lib.hid hin
 have HOUT:=Lib.hid hout
 clear hin hout hl hv
 go_enter Tryz.func74,Tryz.ntmps74
 go_wp2_with fail
 go_loopg [9] n (fun g v6 wr=>∃ i:Nat,i≤n∧n-i≤g∧v6=.int .i64 (i:Int)∧wr=w∧∀ j,j<i→nth xs j≠y)
 case atStart=>exact⟨0,by omega,by omega,rfl,rfl,fun j hj=>by omega⟩
 case round=>
  obtain⟨i,hi,hg,rfl,rfl,hall⟩:=hrel
  have HA:=Lib.hid hall
  clear hall
  by_cases hil:i<n
  ·obtain⟨b,off,rfl,hc⟩:=HV.out.cell (i:=i) (by have:=HL.out;omega)
   obtain⟨x,hx⟩:∃ x,nth xs i=x:=⟨_,rfl⟩
   rw[hx] at hc
   have HX:=Lib.hid hx
   clear hx
   by_cases hxy:x=y
   ·subst hxy
    have hb:(x == x)=true:=by simp
    go_wp2_with fail
    go_ret
    exact⟨by have:=HOUT.out i hil HX.out;first|(rw[this];done)|(rw[this];rfl)|simp[this],rfl⟩
   ·have hb:(x == y)=false:=by simp[hxy]
    go_wp2_with fail
    go_roundg (n-(i+1))
    case measure=>omega
    case rel=>exact⟨i+1,by omega,by omega,by go_num,rfl,fun j hj=>by
     by_cases e:j=i
     ·subst e;rw[HX.out];exact fun e=>hxy e
     ·exact HA.out j (by omega)⟩
  ·obtain rfl:i=n:=by omega
   go_wp2_with fail
   go_ret
   exact⟨by have:=HIN.out HA.out;first|(rw[this];done)|(rw[this];rfl)|simp[this],rfl⟩
set_option maxRecDepth 100000 in
set_option maxHeartbeats 2000000 in
theorem r14corners_any (R:Reg) (w:World) (hI:Inv R w) (v:Value) (s:List Nat) (r:Nat) (lone:Int) (hv:FreeI R w v (toI s)) (hS:IsPerm s) (hes:s.length % 2=0) (hn:s.length≤4194304) (hr:r<s.length):
  Calls Tryz.prog 21 #[refV v (r:Int) lone] w (RetOwn R w (cor3 s r)):=by
 obtain⟨a0,c0,rfl,hv⟩:=hv.open
 rw[toI_length] at hv ⊢
 unfold refV
 have hph:=phiL_perm hS hes
 have hpl:=phiL_length s
 obtain⟨r1,hr1⟩:∃ x,at' (phiL s) r=x:=⟨_,rfl⟩
 obtain⟨r2,hr2⟩:∃ x,at' (phiL s) r1=x:=⟨_,rfl⟩
 have hl1:r1<s.length:=by rw[←hr1,←hpl];exact hph.lt (by rw[hpl];exact hr)
 have hl2:r2<s.length:=by rw[←hr2,←hpl];exact hph.lt (by rw[hpl];exact hl1)
 have he1:Ev R w R (w.alloc (.cells #[.slice a0 s.length c0,.int .i64 (r:Int),.int .i64 lone] 26)):=(Ev.refl hI).alloc _
 have HX:=Lib.hid (fun R' w' (h:Ev R (w.alloc (.cells #[.slice a0 s.length c0,.int .i64 (r:Int),.int .i64 lone] 26)) R' w')=>h.ref3 (hI.none_of_ge (Nat.le_refl _)))
 have HNm:=Lib.hid (fun w' (hee:Ev R w R w')=>rnames_any R w' hee.inv _ s (hv.ev hee) hS hn)
 have HPhi:=Lib.hid (fun w' (hee:Ev R w R w')=>rphi_any R w' hee.inv _ s (r:Int) lone (hv.ev hee) hn hes)
 unfold refV at HPhi
 have HE1:=Lib.hid he1
 obtain⟨N,hN⟩:∃ N,s.length=N:=⟨_,rfl⟩
 have hnl:(namesL s).length=N:=by rw[namesL_length,hN]
 have HNl:=Lib.hid hnl
 have HPl:=Lib.hid (show (toI (phiL s)).length=N by rw[toI_length,hpl,hN])
 have hp0:nth (toI (phiL s)) r=(r1:Int):=by rw[toI_nth,hr1]
 have hp1:nth (toI (phiL s)) r1=(r2:Int):=by rw[toI_nth,hr2]
 have HP0:=Lib.hid hp0
 have HP1:=Lib.hid hp1
 have HC:Hid (cor3 s r=[nth (namesL s) r,nth (namesL s) r1,nth (namesL s) r2]):=Lib.hid (by unfold cor3;rw[hr1,hr2])
 rw[hN] at hr hl1 hl2 HX HE1 HPhi HNm ⊢
 have HI:=Lib.hid hI
 clear hI hv hS hes hph hpl he1 hr1 hr2 hnl hp0 hp1
 go_enter Tryz.func21,Tryz.ntmps21
 go_wp2_with fail
 obtain⟨x0,x1,x2⟩:=HX.out _ _ (Ev.refl HE1.out.inv)
 go_wp2_with fail
 refine (HNm.out _ HE1.out).mono ?_
 rintro e w2 ⟨v2,rfl,he2,ho2⟩
 obtain⟨a2,c2,rfl,_⟩:=ho2.ints.open
 rw[HNl.out] at ho2 ⊢
 have HE2:=Lib.hid he2
 have HO2:=Lib.hid ho2
 clear he2 ho2 x0 x1 x2
 obtain⟨x0,x1,x2⟩:=HX.out _ _ HE2.out
 go_wp2_with fail
 refine (HPhi.out _ (HE1.out.trans HE2.out)).mono ?_
 rintro e w3 ⟨v3,rfl,he3,ho3⟩
 obtain⟨a3,c3,rfl,_⟩:=ho3.ints.open
 rw[HPl.out] at ho3 ⊢
 have HE3:=Lib.hid (HE2.out.trans he3)
 have HO2:=Lib.hid (HO2.out.ev he3)
 have HO3:=Lib.hid ho3
 clear he3 ho3 x0 x1 x2 HE2
 obtain⟨x0,x1,x2⟩:=HX.out _ _ HE3.out
 obtain⟨gn,rfl,_,_,y0,_⟩:=HO2.out.headAt HNl.out hr
 obtain⟨_,e,_,_,y1,_⟩:=HO2.out.headAt HNl.out hl1
 cases e
 obtain⟨_,e,_,_,y2,_⟩:=HO2.out.headAt HNl.out hl2
 cases e
 obtain⟨gp,rfl,_,_,z0,_⟩:=HO3.out.headAt HPl.out hr
 obtain⟨_,e,_,_,z1,_⟩:=HO3.out.headAt HPl.out hl1
 cases e
 rw[HP0.out] at z0
 rw[HP1.out] at z1
 go_wp2_with fail
 obtain⟨n0,hn0⟩:∃ x,nth (namesL s) r=x:=⟨_,rfl⟩
 obtain⟨n1,hn1⟩:∃ x,nth (namesL s) r1=x:=⟨_,rfl⟩
 obtain⟨n2,hn2⟩:∃ x,nth (namesL s) r2=x:=⟨_,rfl⟩
 have HC3:Hid (cor3 s r=[n0,n1,n2]):=Lib.hid (by rw[HC.out,hn0,hn1,hn2])
 rw[hn0] at y0
 rw[hn1] at y1
 rw[hn2] at y2
 clear hn0 hn1 hn2
 go_region
 go_wp2_with fail
 go_ret
 have HE4:=Lib.hid (HE1.out.trans HE3.out)
 have hno:=(OwnI.new3 (R:=R) (B:=w.heap.size) HE4.out.size (HE4.out.inv.none_of_ge (Nat.le_refl _)) n0 n1 n2).drew
 rw[←HC3.out] at hno
 exact⟨.slice (some ⟨w3.heap.size,0,none⟩) 3 3,rfl,(HE4.out.alloc _).drew,hno⟩
end
section
open Go.RowKit
set_option linter.unusedVariables false
set_option linter.unusedSimpArgs false
def nbL (s:List Nat) (d:Nat):List Int:=(orbitL s d).map fun x=>nth (namesL s) (x ^^^ 1)
theorem nbL_length (s:List Nat) (d:Nat):(nbL s d).length=(orbitL s d).length:=by simp[nbL]
set_option maxRecDepth 100000 in
set_option maxHeartbeats 2000000 in
theorem r14neigh_any (R:Reg) (w:World) (hI:Inv R w) (v:Value) (s:List Nat) (rt lone:Int) (hv:FreeI R w v (toI s)) (h:TriS s) (hn:s.length≤4194304) (d:Nat) (hd:d<s.length):
  Calls Tryz.prog 73 #[refV v rt lone,.int .i64 (nth (namesL s) d),.int .i64 (nth (namesL s) (d ^^^ 1))] w (RetOwn R w (nbL s d)):=by
 obtain⟨a0,c0,rfl,hv⟩:=hv.open
 rw[toI_length] at hv ⊢
 unfold refV
 have he1:Ev R w R (w.alloc (.cells #[.slice a0 s.length c0,.int .i64 rt,.int .i64 lone] 26)):=(Ev.refl hI).alloc _
 have HX:=Lib.hid (fun R' w' (h:Ev R (w.alloc (.cells #[.slice a0 s.length c0,.int .i64 rt,.int .i64 lone] 26)) R' w')=>h.ref3 (hI.none_of_ge (Nat.le_refl _)))
 have HNm:=Lib.hid (fun w' (hee:Ev R w R w')=>rnames_any R w' hee.inv _ s (hv.ev hee) h.perm hn)
 have HOr:=Lib.hid (fun w' (hee:Ev R w R w')=>rorbit_any R w' hee.inv _ s (hv.ev hee) h.perm hn d hd)
 have HMt:=Lib.hid (fun w' (i:Nat) (hi:i<s.length)=>rmate_any w' i (by omega))
 have HT:=Lib.hid h
 have HE1:=Lib.hid he1
 obtain⟨N,hN⟩:∃ N,s.length=N:=⟨_,rfl⟩
 have hm:=xor_one_lt h.even hd
 have HNl:=Lib.hid (show (namesL s).length=N by rw[namesL_length,hN])
 have HN:=Lib.hid hN
 obtain⟨vn,hvn⟩:∃ x,nth (namesL s) d=x:=⟨_,rfl⟩
 obtain⟨fn,hfn⟩:∃ x,nth (namesL s) (d ^^^ 1)=x:=⟨_,rfl⟩
 have HUq:Hid (∀ k,k<N→(nth (namesL s) k=vn∧nth (namesL s) (k ^^^ 1)=fn↔k=d)):=Lib.hid fun k hk=>⟨fun ⟨q1,q2⟩=>h.dbl k d (by rw[hN];exact hk) hd (by rw[q1,hvn]) (by rw[q2,hfn]),fun e=>by rw[e];exact⟨hvn,hfn⟩⟩
 have HXm:Hid (∀ k,k<N→k ^^^ 1<N):=Lib.hid fun k hk=>by rw[←hN];exact xor_one_lt h.even (by rw[hN];exact hk)
 have HOb:Hid (∀ x,x∈orbitL s d→x<N):=Lib.hid fun x hx=>by rw[←hN];exact orbitL_lt h.perm hd x hx
 rw[hN] at hd hn HX HE1 HNm HOr HMt ⊢
 rw[hvn,hfn]
 have HI:=Lib.hid hI
 clear hI hv h he1 hvn hfn hm hN
 go_enter Tryz.func73,Tryz.ntmps73
 go_wp2_with fail
 obtain⟨x0,x1,x2⟩:=HX.out _ _ (Ev.refl HE1.out.inv)
 go_wp2_with fail
 refine (HNm.out _ HE1.out).mono ?_
 rintro e w2 ⟨v2,rfl,he2,ho2⟩
 obtain⟨a2,c2,rfl,_⟩:=ho2.ints.open
 rw[HNl.out] at ho2 ⊢
 have HE2:=Lib.hid he2
 have HO2:=Lib.hid ho2
 clear he2 ho2 x0 x1 x2
 obtain⟨x0,x1,x2⟩:=HX.out _ _ HE2.out
 go_wp2_with fail
 go_loopg [18] N (fun g v18 wr=>∃ (k:Nat),k≤d∧N-k≤g∧v18=.int .i64 (k:Int)∧wr=w2)
 case atStart=>exact⟨0,Nat.zero_le _,by omega,rfl,rfl⟩
 case round=>
  obtain⟨k,hkd,hg,rfl,rfl⟩:=hrel
  have hkN:k<N:=by omega
  have hk1:=HXm.out k hkN
  have huq:=HUq.out k hkN
  obtain⟨gn,rfl,_,_,y0,_⟩:=HO2.out.headAt HNl.out hkN
  obtain⟨_,e,_,_,y1,_⟩:=HO2.out.headAt HNl.out hk1
  cases e
  have HM1:=Lib.hid (fun w'=>HMt.out w' k hkN)
  obtain⟨m,hm⟩:∃ m,k ^^^ 1=m:=⟨_,rfl⟩
  obtain⟨yv,hyv⟩:∃ x,nth (namesL s) k=x:=⟨_,rfl⟩
  obtain⟨yf,hyf⟩:∃ x,nth (namesL s) m=x:=⟨_,rfl⟩
  rw[hm] at hk1 HM1 huq y1
  rw[hyv] at y0 huq
  rw[hyf] at y1 huq
  have HU:=Lib.hid huq
  have hsN:k+1≤N:=hkN
  clear huq hm hyv hyf
  by_cases q1:yv=vn
  ·have hb1:(yv == vn)=true:=by simp[q1]
   by_cases q2:yf=fn
   ·have hb2:(yf == fn)=true:=by simp[q2]
    have hkd2:k=d:=HU.out.1 ⟨q1,q2⟩
    subst hkd2
    clear q1 q2 HU
    go_wp2_with fail
    refine (HM1.out _).mono ?_
    rintro e w' ⟨rfl,rfl⟩
    go_wp2_with fail
    refine (HOr.out _ (HE1.out.trans HE2.out)).mono ?_
    rintro e w3 ⟨v3,rfl,he3,ho3⟩
    as_aux_lemma=>
     obtain⟨m3,hm3⟩:∃ m3,(orbitL s k).length=m3:=⟨_,rfl⟩
     have hm3b:m3≤N+1:=by rw[←hm3,←HN.out];exact orbitL_length s k
     have HM3:=Lib.hid (show (toI (orbitL s k)).length=m3 by rw[toI_length,hm3])
     obtain⟨a3,c3,rfl,_⟩:=ho3.ints.open
     rw[HM3.out] at ho3 ⊢
     have HE3:=Lib.hid (HE2.out.trans he3)
     have HO3:=Lib.hid ho3
     have HO2:=Lib.hid (HO2.out.ev he3)
     have HZ3:=Lib.hid he3.size
     have HTd:Hid (∀ i,i<m3→∃ x:Nat,nth (toI (orbitL s k)) i=(x:Int)∧x<N∧(nbL s k).take (i+1)=(nbL s k).take i ++ [nth (namesL s) (x ^^^ 1)]):=Lib.hid fun i hi=>by
      have hi':i<(orbitL s k).length:=by rw[hm3];exact hi
      refine⟨(orbitL s k)[i],?_,HOb.out _ (List.getElem_mem hi'),?_⟩
      ·rw[toI_nth,at'_eq hi']
      ·rw[List.take_add_one,List.getElem?_eq_getElem (by rw[nbL_length];exact hi')]
       simp[nbL]
     have HNb:Hid ((nbL s k).length=m3):=Lib.hid (by rw[nbL_length,hm3])
     have HGn:=Lib.hid (HO2.out.lt gn rfl).2
     have HGa:=Lib.hid (fun j (hj:(Value.slice a3 m3 c3).ownBlock=some j)=>(HO3.out.lt j hj).2)
     have HZw:=Lib.hid HE3.out.size
     clear he3 ho3 hm3 x0 x1 x2 y0 y1
     go_wp2_with fail
     go_loopg [9,41] m3 (fun g v9 v41 wq=>∃ (i:Nat) (a7:Option Addr) (m7 c7:Nat),i≤m3∧m3-i≤g∧v9=.slice a7 m7 c7∧v41=.int .i64 (i:Int)∧Ev R (w.alloc (.cells #[.slice a0 N c0,.int .i64 rt,.int .i64 lone] 26)) R wq∧OwnI R (w.heap.size+1) 3 wq (.slice (some ⟨gn,0,none⟩) N c2) (namesL s)∧OwnI R (w.heap.size+1) 3 wq (.slice a3 m3 c3) (toI (orbitL s k))∧OwnI R w3.heap.size 3 wq (.slice a7 m7 c7) ((nbL s k).take i)∧w3.heap.size≤wq.heap.size)
     case atStart=>exact⟨0,none,0,0,by omega,by omega,rfl,rfl,HE3.out,HO2.out.mono (by simp),HO3.out.mono (by have:=HE2.out.size;simp at this ⊢;omega),OwnI.nil _ _ _ _,Nat.le_refl _⟩
     case round=>
      obtain⟨i,a7,m7,c7,hi,hg7,rfl,rfl,he,ho2,ho3,ho7,hwz⟩:=hrel
      have HE:=Lib.hid he
      have HO2:=Lib.hid ho2
      have HO3:=Lib.hid ho3
      have HO7:=Lib.hid ho7
      have HWz:=Lib.hid hwz
      clear he ho2 ho3 ho7 hwz
      by_cases hil:i<m3
      ·obtain⟨ga,rfl,_,_,hc,_⟩:=HO3.out.headAt HM3.out (i:=i) hil
       obtain⟨x,hxT,hxN,hxn⟩:=HTd.out i hil
       rw[hxT] at hc
       have hxm:=HXm.out x hxN
       have HM1:=Lib.hid (fun w'=>HMt.out w' x hxN)
       obtain⟨xm,hxe⟩:∃ m,x ^^^ 1=m:=⟨_,rfl⟩
       rw[hxe] at hxm HM1 hxn
       obtain⟨_,e,_,_,hcn,_⟩:=HO2.out.headAt HNl.out hxm
       cases e
       obtain⟨y,hy⟩:∃ y,nth (namesL s) xm=y:=⟨_,rfl⟩
       rw[hy] at hcn hxn
       have HS:=Lib.hid hxn
       have HLn:Hid (((nbL s k).take i).length≤8388607):=Lib.hid (by rw[List.length_take];omega)
       have HEa:=Lib.hid (HE.out.alloc (.cells #[.int .i64 y] 3))
       have HO7a:=Lib.hid (HO7.out.alloc (.cells #[.int .i64 y] 3))
       have hwz:=HWz.out
       clear hxT hxe hy hxn
       go_wp2_with fail
       refine (HM1.out _).mono ?_
       rintro e w' ⟨rfl,rfl⟩
       go_wp2_with (at_builtin;refine wpList_app_int (R:=R) (B:=w3.heap.size) rfl _ _ rfl HO7a.out rfl ⟨wr.heap.size,0,none⟩ 1 y rfl ?h1a ?h1b ?h1c ?h1d ?_)
       case h1a=>simp
       case h1b=>exact HLn.out
       case h1c=>first|omega|(simp;omega)
       case h1d=>exact fun q hq=>HEa.out.inv.none_of_ge (by simp at hq ⊢;omega)
       intro v' w9 ho9 hg9 hs9
       obtain⟨a9,c9,rfl,_⟩:=ho9.ints.open
       have HE9:=Lib.hid (HEa.out.app HO7a.out HZw.out hg9)
       have HO29:=Lib.hid ((HO2.out.alloc (.cells #[.int .i64 y] 3)).kept hg9 (.inr (fun e=>by have:=(HO7.out.lt gn e.symm).1;have:=HGn.out;omega)))
       have HO39:=Lib.hid ((HO3.out.alloc (.cells #[.int .i64 y] 3)).kept hg9 (.inr (fun e=>by have:=(HO7.out.lt ga e.symm).1;have:=HGa.out ga rfl;omega)))
       have HO9:=Lib.hid ho9
       have hz9:w3.heap.size≤w9.heap.size:=by have:=hg9.size;simp at this;omega
       clear ho9 hg9 hs9
       go_wp2_with fail
       go_roundg (m3-(i+1))
       case measure=>omega
       case rel=>exact⟨i+1,_,_,_,by omega,by omega,rfl,by go_num,HE9.out,HO29.out,HO39.out,by rw[HS.out];exact HO9.out,hz9⟩
      ·obtain rfl:m3=i:=by omega
       have hf:(nbL s k).take m3=nbL s k:=by rw[←HNb.out];exact List.take_length
       have HO7:=Lib.hid (by have:=HO7.out;rwa [hf] at this:OwnI R w3.heap.size 3 wr (.slice a7 m7 c7) (nbL s k))
       have HZ:Hid (w.heap.size≤w3.heap.size):=Lib.hid (by have:=HZw.out;simp at this;omega)
       clear hf
       go_wp2_with fail
       go_ret
       exact⟨_,rfl,HE1.out.trans HE.out,HO7.out.mono HZ.out⟩
   ·have hb2:(yf == fn)=false:=by simp[q2]
    have hkd2:k≠d:=fun e=>q2 (HU.out.2 e).2
    clear q1 q2 HU
    go_wp2_with fail
    refine (HM1.out _).mono ?_
    rintro e w' ⟨rfl,rfl⟩
    go_wp2_with fail
    go_roundg (N-(k+1))
    case measure=>omega
    case rel=>exact⟨k+1,by omega,by omega,by go_num,rfl⟩
  ·have hb1:(yv == vn)=false:=by simp[q1]
   have hkd2:k≠d:=fun e=>q1 (HU.out.2 e).1
   clear q1 HU
   go_wp2_with fail
   go_roundg (N-(k+1))
   case measure=>omega
   case rel=>exact⟨k+1,by omega,by omega,by go_num,rfl⟩
end
section
open Go.RowKit
set_option linter.unusedVariables false
set_option linter.unusedSimpArgs false
set_option linter.unusedSectionVars false
section
variable {s : List Nat} (h : TriS s) {d : Nat} (hd : d < s.length)
include h hd
theorem nb_at:∃ m,(orbitL s d).length=m∧0<m∧itf (at' s) m d=d∧m≤s.length+1∧(∀ t,t<m→nth (nbL s d) t=nth (namesL s) (itf (at' s) t d ^^^ 1))∧∀ B t,t<m→(nbs s B ((orbitL s d).take (t+1))).length=(nbs s B ((orbitL s d).take t)).length+if nth (nbL s d) t∈B then 1 else 0:=by
 obtain⟨m,m0,m1,m2⟩:=orbitL_map h.perm hd
 have hl:(orbitL s d).length=m:=by rw[m2];simp
 have hg:∀ t,(ht:t<m)→(orbitL s d)[t]?=some (itf (at' s) t d):=fun t ht=>by rw[m2,List.getElem?_map,List.getElem?_range ht];simp[it_itf]
 have hn:∀ t,t<m→nth (nbL s d) t=nth (namesL s) (itf (at' s) t d ^^^ 1):=fun t ht=>by
  rw[nth_at (by rw[nbL_length,hl];exact ht)]
  unfold nbL
  rw[List.getElem_map]
  have:=hg t ht
  rw[List.getElem?_eq_getElem (by rw[hl];exact ht)] at this
  rw[Option.some.inj this]
 refine⟨m,hl,m0,by rw[←it_itf];exact m1,by rw[←hl];exact orbitL_length s d,hn,fun B t ht=>?_⟩
 unfold nbs
 rw[List.take_add_one,hg t ht,List.filter_append,List.length_append,hn t ht]
 congr 1
 by_cases q:nth (namesL s) (itf (at' s) t d ^^^ 1)∈B
 ·simp[q]
 ·simp[q]
theorem arc_in {m q J:Nat} (hm:itf (at' s) m d=d) (h0:0<m) (hJ:itf (at' s) J d=q) (hmin:∀ l,l<J→itf (at' s) l d≠q):J<m:=by
 rcases Nat.lt_or_ge J m with k|k
 ·exact k
 ·exfalso
  have e:itf (at' s) (J-m) d=q:=by
   rw[←hJ]
   conv=>rhs;rw[show J=(J-m)+m by omega,itf_add,hm]
  exact hmin _ (by omega) e
end
theorem innL_take {s:List Nat} {d t J:Nat} (ht:t+1<J):(innL s (d ^^^ 1) J).take (t+1)=(innL s (d ^^^ 1) J).take t ++ [nth (namesL s) (itf (at' s) (t+1) d ^^^ 1)]:=by
 unfold innL
 rw[List.take_add_one,List.getElem?_map,List.getElem?_range (by omega),xor_one_one]
 rfl
theorem innL_len (s:List Nat) (p J:Nat):(innL s p J).length=J-1:=by simp[innL]
set_option maxRecDepth 100000 in
set_option maxHeartbeats 4000000 in
theorem r14order_any (R:Reg) (w:World) (hI:Inv R w) (v:Value) (s:List Nat) (r:Nat) (lone:Int) (hv:FreeI R w v (toI s)) (h:TriS s) (hn:s.length≤131073) (hr:r<s.length):
  Calls Tryz.prog 20 #[refV v (r:Int) lone] w (RetOwn R w (orderL s r)):=by
 obtain⟨a0,c0,rfl,hv2⟩:=hv.open
 clear hv
 have hv:=hv2
 clear hv2
 rw[toI_length] at hv ⊢
 unfold refV
 have he1:Ev R w R (w.alloc (.cells #[.slice a0 s.length c0,.int .i64 (r:Int),.int .i64 lone] 26)):=(Ev.refl hI).alloc _
 have HX:=Lib.hid (fun R' w' (h:Ev R (w.alloc (.cells #[.slice a0 s.length c0,.int .i64 (r:Int),.int .i64 lone] 26)) R' w')=>h.ref3 (hI.none_of_ge (Nat.le_refl _)))
 have HCo:=Lib.hid (fun w' (hee:Ev R w R w')=>r14corners_any R w' hee.inv _ s r lone (hv.ev hee) h.perm h.even (by omega) hr)
 have HNb:=Lib.hid (fun w' (hee:Ev R w R w') d hd=>r14neigh_any R w' hee.inv _ s (r:Int) lone (hv.ev hee) h (by omega) d hd)
 unfold refV at HCo HNb
 have HT:=Lib.hid h
 have HR:=Lib.hid hr
 have HE1:=Lib.hid he1
 obtain⟨N,hN⟩:∃ N,s.length=N:=⟨_,rfl⟩
 have HN:=Lib.hid hN
 obtain⟨e0,he0⟩:∃ c0,nth (namesL s) r=c0:=⟨_,rfl⟩
 obtain⟨e1,he1'⟩:∃ c0,nth (namesL s) (at' (phiL s) r)=c0:=⟨_,rfl⟩
 obtain⟨e2,he2'⟩:∃ c0,nth (namesL s) (at' (phiL s) (at' (phiL s) r))=c0:=⟨_,rfl⟩
 have hbg:vtL s (begA s r ++ [r ^^^ 1])=[e0,e2,e1]:=by unfold vtL;rw[begA_names h hr,he0,he1',he2']
 have HBg:=Lib.hid hbg
 have HC:Hid (cor3 s r=[e0,e1,e2]):=Lib.hid (by unfold cor3;rw[he0,he1',he2'])
 rw[HC.out] at HCo
 rw[hN] at hn HX HE1 HCo HNb ⊢
 have HI:=Lib.hid hI
 have HE01:Hid (nth (namesL s) r=e0∧nth (namesL s) (at' (phiL s) r)=e1):=Lib.hid ⟨he0,he1'⟩
 clear hI hv h he1 hr hN he0 he1' he2' hbg
 go_enter Tryz.func20,Tryz.ntmps20
 go_wp2_with fail
 obtain⟨x0,x1,x2⟩:=HX.out _ _ (Ev.refl HE1.out.inv)
 go_wp2_with fail
 refine (HCo.out _ HE1.out).mono ?_
 rintro e w2 ⟨v2,rfl,he2,ho2⟩
 obtain⟨a2,c2,rfl,-⟩:=ho2.ints.open
 rw[show ([e0,e1,e2]:List Int).length=3 from rfl] at ho2 ⊢
 have HE2:=Lib.hid he2
 have HO2:=Lib.hid ho2
 obtain⟨gc,rfl,hgc,-,y0,-⟩:=ho2.headAt rfl (i:=0) (by omega)
 obtain⟨_,e,-,-,y1,-⟩:=ho2.headAt rfl (i:=1) (by omega)
 cases e
 obtain⟨_,e,-,-,y2,-⟩:=ho2.headAt rfl (i:=2) (by omega)
 cases e
 rw[show nth [e0,e1,e2] 0=e0 from rfl] at y0
 rw[show nth [e0,e1,e2] 1=e1 from rfl] at y1
 rw[show nth [e0,e1,e2] 2=e2 from rfl] at y2
 clear he2 ho2 x0 x1 x2
 go_wp2_with fail
 go_region
 have hnb:=(OwnI.new3 (R:=R) (B:=w.heap.size+1) (w:=w2) (by have:=HE2.out.size;simpa using this) (HE2.out.inv.none_of_ge (Nat.le_refl _)) e0 e2 e1).drew
 have HB3:=Lib.hid hnb
 have HE3:=Lib.hid (HE2.out.alloc (.cells #[.int .i64 e0,.int .i64 e2,.int .i64 e1] 3)).drew
 have HO3:=Lib.hid (HO2.out.alloc (.cells #[.int .i64 e0,.int .i64 e2,.int .i64 e1] 3)).drew
 obtain⟨w3,hw3⟩:∃ x,(w2.alloc (.cells #[.int .i64 e0,.int .i64 e2,.int .i64 e1] 3)).drew=x:=⟨_,rfl⟩
 rw[hw3] at HB3 HE3 HO3 ⊢
 clear hnb hw3 HO2
 go_wp2_with fail
 have HTr:Hid (Trio R (w.alloc (.cells #[.slice a0 N c0,.int .i64 (r:Int),.int .i64 lone] 26)) (w.heap.size+1) (w.heap.size+1) w3.heap.size w3 (.slice (some ⟨w2.heap.size,0,none⟩) 3 3) (.slice none 0 0) (.slice (some ⟨gc,0,none⟩) 3 c2) (vtL s (begA s r ++ [r ^^^ 1])) [] [e0,e1,e2]):=Lib.hid ⟨HE3.out,by rw[HBg.out];exact HB3.out,OwnI.nil _ _ _ _,HO3.out.mono (by simp),fun k e=>(HB3.out.lt k e).2,fun k e=>by simp[Value.ownBlock] at e,fun k e=>(HO3.out.lt k e).2,Nat.le_refl _⟩
 have HZ:=Lib.hid HE3.out.size
 clear HE2 HB3 HO3 HE3 HCo HC y0 y1 y2 hgc
 as_aux_lemma=>
  go_loopg [4,5] N (fun g v4 v5 wq=>∃ (A:List Nat) (out:List Int) (ab ag:Option Addr) (cb cg:Nat),ShRun s r A out∧OrdTo s r A out∧N-out.length≤g∧v4=.slice ab (A.length+1) cb∧v5=.slice ag out.length cg ∧
   Trio R (w.alloc (.cells #[.slice a0 N c0,.int .i64 (r:Int),.int .i64 lone] 26)) (w.heap.size+1) (w.heap.size+1) wq.heap.size wq v4 v5 (.slice (some ⟨gc,0,none⟩) 3 c2) (vtL s (A ++ [r ^^^ 1])) out.reverse [e0,e1,e2])
  case atStart=>exact⟨begA s r,[],_,_,_,_,ShRun.start HT.out HR.out,OrdTo.start HT.out HR.out,by simp,rfl,rfl,HTr.out⟩
  case round=>
   obtain⟨A,out,ab,ag,cb,cg,hRun,hTo,hg,rfl,rfl,htr⟩:=hrel
   obtain⟨wo,hwo⟩:∃ wo:World,wo=wr:=⟨_,rfl⟩
   subst hwo
   as_aux_lemma=>
    have HRun:=Lib.hid hRun
    have HTo:=Lib.hid hTo
    have HT0:=Lib.hid htr
    have HT0z:=Lib.hid htr.ev.size
    have hBl:(vtL s (A ++ [r ^^^ 1])).length=A.length+1:=hRun.border_len HT.out HR.out
    have hVn:(sizesL s).length≤N:=by rw[←HN.out];exact sizesL_le HT.out.perm
    have hol:=hRun.len HT.out HR.out
    obtain⟨L,hL⟩:∃ L,A.length=L:=⟨_,rfl⟩
    have hLN:L≤N:=by
     have h1:=nodup_le (V:=(sizesL s).length) (l:=vtL s (A ++ [r ^^^ 1])) hRun.shl.one (fun x hx=>by
      obtain⟨y,y1,y2⟩:=List.mem_map.1 hx
      rw[←y2]
      exact HT.out.name (hRun.shl.lt y y1))
     omega
    obtain⟨ol,hole⟩:∃ ol,out.length=ol:=⟨_,rfl⟩
    rw[hole] at hol hg HT0
    try rw[hole]
    rw[hL] at HT0 hBl
    try rw[hL]
    have HLe:=Lib.hid hL
    have HOl:=Lib.hid hole
    have HBl:=Lib.hid hBl
    clear hRun hTo htr HTr hBl hL hole
    have hw1:IntKind.i64.wrap ((L:Int)+1-1)=(L:Int):=by rw[show (L:Int)+1-1=(L:Int) by omega];exact IntWalk.i64_in _ (by omega)
    by_cases hL2:2≤L
    ·have hb:decide ((2:Int)<(L:Int)+1)=true:=decide_eq_true (by omega)
     obtain⟨hFr,hMin⟩:=HRun.out.first HT.out HR.out (by rw[HLe.out];exact hL2)
     obtain⟨k,hk⟩:∃ k,firstI s (r ^^^ 1) A=k:=⟨_,rfl⟩
     rw[hk] at hFr hMin
     have hk0:=hFr.1
     have hkL:k<L:=by rw[←HLe.out];exact hFr.2.1
     have HFr:=Lib.hid hFr
     have HMin:=Lib.hid hMin
     clear hFr hMin hk
     go_wp2_with fail
     go_loopg [4,5,6] L (fun g v4 v5 v6 wq=>∃ (i:Nat),0<i∧i≤k∧L-i≤g∧v6=.int .i64 (i:Int)∧v4=.slice ab (L+1) cb∧v5=.slice ag ol cg∧Trio R (w.alloc (.cells #[.slice a0 N c0,.int .i64 (r:Int),.int .i64 lone] 26)) (w.heap.size+1) (w.heap.size+1) wo.heap.size wq (.slice ab (L+1) cb) (.slice ag ol cg) (.slice (some ⟨gc,0,none⟩) 3 c2) (vtL s (A ++ [r ^^^ 1])) out.reverse [e0,e1,e2])
     case atStart=>exact⟨1,by omega,by omega,by omega,rfl,rfl,rfl,HT0.out⟩
     case round=>
      obtain⟨i,hi0,hik,hgi,rfl,rfl,rfl,htr⟩:=hrel
      as_aux_lemma=>
       have HT1:=Lib.hid htr
       clear htr HT0
       have hiL:i<L:=by omega
       have hiA:i<A.length:=by rw[HLe.out];exact hiL
       obtain⟨j1,j2,j3,j4⟩:=HRun.out.adj HT.out HR.out hi0 hiA
       have hBi:=HRun.out.border_at HT.out HR.out hiA
       have hBp:=HRun.out.border_at HT.out HR.out (i:=i-1) (by omega)
       have hpl:=(HRun.out.mem HT.out HR.out (HRun.out.getD_mem HT.out HR.out (i:=i-1) (by omega))).1
       have hql:=(HRun.out.mem HT.out HR.out (HRun.out.getD_mem HT.out HR.out hiA)).1
       have hst:=fun hf=>HRun.out.step HT.out HR.out (i:=i) hf
       have hns:=fun hf=>HRun.out.names_step HT.out HR.out (i:=i) hf
       obtain⟨p,hp⟩:∃ p,A.getD (i-1) 0=p:=⟨_,rfl⟩
       obtain⟨q,hq⟩:∃ q,A.getD i 0=q:=⟨_,rfl⟩
       have hdl:=xor_one_lt HT.out.even hpl
       rw[hp] at j1 j2 hBp hpl hdl hst hns
       rw[hq] at j1 j2 j3 hBi hql hst hns
       obtain⟨d,hd⟩:∃ d,p ^^^ 1=d:=⟨_,rfl⟩
       have hdp:d ^^^ 1=p:=by rw[←hd,xor_one_one]
       rw[hd] at j1 j2 hdl hst
       have hfree:=HRun.out.free_ok HT.out HR.out hi0 hiA (d0:=d) hdl (by rw[j1,hq])
       obtain⟨Bv,hBv⟩:∃ Bv,vtL s (A ++ [r ^^^ 1])=Bv:=⟨_,rfl⟩
       have HBv:=Lib.hid hBv
       rw[hBv] at hBi hBp j3 hfree hns HT1 HBl
       obtain⟨m,m1,m2,m3,m4,m5,m6⟩:=nb_at HT.out hdl
       obtain⟨gb,rfl,-,-,z0,-⟩:=HT1.out.bd.headAt HBl.out (i:=i) (by omega)
       have HBc:=Lib.hid (fun (bo:Nat) (w':World) (ht:Trio R (w.alloc (.cells #[.slice a0 N c0,.int .i64 (r:Int),.int .i64 lone] 26)) (w.heap.size+1) (w.heap.size+1) bo w' (.slice (some ⟨gb,0,none⟩) (L+1) cb) (.slice ag ol cg) (.slice (some ⟨gc,0,none⟩) 3 c2) Bv out.reverse [e0,e1,e2]) (j:Nat) (hj:j<L+1)=>(by
        obtain⟨_,e,-,-,z,-⟩:=ht.bd.headAt HBl.out hj
        cases e
        exact z:w'.cell? ⟨gb,j,none⟩=some (.int .i64 (nth Bv j))))
       clear z0
       obtain⟨bi,hbi⟩:∃ x,nth Bv i=x:=⟨_,rfl⟩
       obtain⟨bp,hbp⟩:∃ x,nth Bv (i-1)=x:=⟨_,rfl⟩
       obtain⟨bn,hbn⟩:∃ x,nth Bv (i+1)=x:=⟨_,rfl⟩
       have HBi:Hid (∀ (bo:Nat) (w':World),Trio R (w.alloc (.cells #[.slice a0 N c0,.int .i64 (r:Int),.int .i64 lone] 26)) (w.heap.size+1) (w.heap.size+1) bo w' (.slice (some ⟨gb,0,none⟩) (L+1) cb) (.slice ag ol cg) (.slice (some ⟨gc,0,none⟩) 3 c2) Bv out.reverse [e0,e1,e2]→w'.cell? ⟨gb,i,none⟩=some (.int .i64 bi)∧w'.cell? ⟨gb,i-1,none⟩=some (.int .i64 bp)∧w'.cell? ⟨gb,i+1,none⟩=some (.int .i64 bn)):=Lib.hid fun bo w' ht=>by
        refine⟨?_,?_,?_⟩
        ·rw[←hbi];exact HBc.out bo w' ht i (by omega)
        ·rw[←hbp];exact HBc.out bo w' ht (i-1) (by omega)
        ·rw[←hbn];exact HBc.out bo w' ht (i+1) (by omega)
       rw[hbi] at hBi
       rw[hbp] at hBp
       rw[hbn] at j3
       have HNd:=Lib.hid (fun w' (hee:Ev R w R w')=>by
        have t:=HNb.out w' hee d (by rw[←HN.out];exact hdl)
        rwa [j1,hdp,←hBi,←hBp] at t)
       have hdr:=HT1.out.drew
       have HT1d:=Lib.hid hdr
       have hdrE:=Lib.hid hdr.ev
       obtain⟨x0,x1,x2⟩:=HX.out _ _ hdr.ev
       obtain⟨z0,z1,z2⟩:=HBi.out _ _ hdr
       have hi1:IntKind.i64.wrap ((i:Int)-1)=((i-1:Nat):Int):=by rw[show (i:Int)-1=((i-1:Nat):Int) by omega];exact IntWalk.i64_in _ (by omega)
       obtain⟨im,him⟩:∃ im,i-1=im:=⟨_,rfl⟩
       rw[him] at hi1 z1
       have HIm:=Lib.hid him
       have himL:im<L:=by omega
       have hil1:(i:Int)<(L:Int)+1:=by omega
       have hil2:(im:Int)<(L:Int)+1:=by omega
       have hdcond:decide ((i:Int)<(L:Int))=true:=decide_eq_true (by omega)
       have H1:=Lib.hid hst
       have H2:=Lib.hid hns
       have H3:=Lib.hid hfree
       have H4:Hid (∀ t,t<m→nth (nbL s d) t=nth (namesL s) (itf (at' s) t d ^^^ 1)):=Lib.hid m5
       have H5:=Lib.hid (m6 Bv)
       have H6:=Lib.hid m3
       have H7:=Lib.hid m1
       have H8:=Lib.hid j1
       have H9:=Lib.hid j3
       have H10:=Lib.hid j2
       have H11:=Lib.hid hdl
       have H12:=Lib.hid hql
       have H15:=Lib.hid hpl
       have H13:=Lib.hid hBi
       have H14:=Lib.hid (⟨hp,hq,hd⟩:A.getD (i-1) 0=p∧A.getD i 0=q∧p ^^^ 1=d)
       have hmN:m≤N+1:=by rw[←HN.out];exact m4
       clear hst hns hfree m6 m5 m3 m1 m4 j1 j2 j3 j4 hBi hBp hdl hpl hql hbi hbp hbn hdp hp hq hd hBv hdr him
       go_wp2_with fail
       have HNd:=Lib.hid (HNd.out _ (HE1.out.trans hdrE.out))
       refine wp_region_held_drew (S:=fun W=>W.cell? ⟨w.heap.size,0,none⟩=some (.slice a0 N c0)∧W.cell? ⟨w.heap.size,1,none⟩=some (.int .i64 (r:Int))∧W.cell? ⟨w.heap.size,2,none⟩=some (.int .i64 lone)∧W.cell? ⟨gb,i,none⟩=some (.int .i64 bi)∧W.cell? ⟨gb,im,none⟩=some (.int .i64 bp)) (by kernel_rfl) ⟨x0,x1,x2,z0,z1⟩ (fun hHeld=>?_)
       refine tk 0 (v:=?ft1) ?gt1 ?_
       case gt1=>(intro w' ⟨s0,s1,s2,s3,s4⟩;go_simp;try with_reducible rfl)
       try simp only[Act.put,rd]
       refine tk 1 (v:=?ft2) ?gt2 ?_
       case gt2=>(intro w' ⟨s0,s1,s2,s3,s4⟩;go_simp;try with_reducible rfl)
       try simp only[Act.put,rd]
       refine tk 2 (v:=?ft3) ?gt3 ?_
       case gt3=>(intro w' ⟨s0,s1,s2,s3,s4⟩;go_simp;try with_reducible rfl)
       try simp only[Act.put,rd]
       refine tk 3 (v:=?ft4) ?gt4 ?_
       case gt4=>(intro w' ⟨s0,s1,s2,s3,s4⟩;go_simp;try with_reducible rfl)
       try simp only[Act.put,rd]
       refine tk 4 (v:=?ft5) ?gt5 ?_
       case gt5=>(intro w' ⟨s0,s1,s2,s3,s4⟩;go_simp;try with_reducible rfl)
       try simp only[Act.put,rd]
       refine tk 5 (v:=?ft6) ?gt6 ?_
       case gt6=>(intro w' ⟨s0,s1,s2,s3,s4⟩;go_simp;try with_reducible rfl)
       try simp only[Act.put,rd]
       refine tk 6 (v:=?ft7) ?gt7 ?_
       case gt7=>(intro w' ⟨s0,s1,s2,s3,s4⟩;go_simp;try with_reducible rfl)
       try simp only[Act.put,rd]
       refine tk 7 (v:=?ft8) ?gt8 ?_
       case gt8=>(intro w' ⟨s0,s1,s2,s3,s4⟩;go_simp;try with_reducible rfl)
       try simp only[Act.put,rd]
       refine tk 8 (v:=?ft9) ?gt9 ?_
       case gt9=>(intro w' ⟨s0,s1,s2,s3,s4⟩;go_simp;try with_reducible rfl)
       try simp only[Act.put,rd]
       refine tk 9 (v:=?ft10) ?gt10 ?_
       case gt10=>(intro w' ⟨s0,s1,s2,s3,s4⟩;go_simp;try with_reducible rfl)
       try simp only[Act.put,rd]
       refine nx 10 fun K hK=>?_
       go_simp
       refine HNd.out.mono ?_
       rintro e w7 ⟨v7,rfl,he7,ho7⟩
       obtain⟨a7,c7,rfl,-⟩:=ho7.ints.open
       rw[nbL_length,H7.out] at ho7 ⊢
       have HT7:=Lib.hid (HT1d.out.to he7)
       have HA7:=Lib.hid (ho7.mono (show wo.heap.size≤wr.drew.heap.size from HT1.out.sz))
       obtain⟨x3,x4,x5⟩:=HX.out _ _ HT7.out.ev
       obtain⟨z3,z4,z5⟩:=HBi.out _ _ HT7.out
       rw[HIm.out] at z4
       go_simp
       refine hK.out _ _ ⟨x3,x4,x5,z3,z4⟩ (fun hHeld2=>?_)
       refine tk 11 (v:=?ft11) ?gt11 ?_
       case gt11=>(intro w' ⟨s0,s1,s2,s3,s4⟩;go_simp;try with_reducible rfl)
       try simp only[Act.put,rd]
       refine wpAnyH_done (by kernel_rfl) ?_ _
       clear he7 ho7 HNd x0 x1 x2 z0 z1 z2 x3 x4 x5 z3 z4 z5 hHeld hHeld2
       go_wp2_with fail
       obtain⟨ga,rfl,-,-,z0,-⟩:=HA7.out.headAt (show (nbL s d).length=m by rw[nbL_length,H7.out]) (i:=0) m2
       clear z0
       have HNl:Hid ((nbL s d).length=m):=Lib.hid (by rw[nbL_length,H7.out])
       have HTk:Hid ((orbitL s d).take m=orbitL s d):=Lib.hid (by rw[←H7.out];exact List.take_length)
       as_aux_lemma=>
        go_loopg [8,50] m (fun g v8 v50 wq=>∃ (t nn:Nat),t≤m∧m-t≤g∧v8=.int .i64 (nn:Int)∧v50=.int .i64 (t:Int)∧wq=w7∧nn=(nbs s Bv ((orbitL s d).take t)).length∧nn≤t)
        case atStart=>exact⟨0,0,Nat.zero_le _,by omega,rfl,rfl,rfl,by simp[nbs],by omega⟩
        case round=>
         obtain⟨t,nn,htm,hgt,rfl,rfl,rfl,hnn,hnt⟩:=hrel
         as_aux_lemma=>
          have HNn:=Lib.hid hnn
          clear hnn
          by_cases htl:t<m
          ·
           obtain⟨_,e,-,-,z0,-⟩:=HA7.out.headAt HNl.out (i:=t) htl
           cases e
           have hsu:=H5.out t htl
           rw[←HNn.out] at hsu
           obtain⟨u,hu⟩:∃ u,nth (nbL s d) t=u:=⟨_,rfl⟩
           rw[hu] at z0 hsu
           have HHs:=Lib.hid (has14_any wr (some ⟨gb,0,none⟩) (L+1) cb Bv u HT7.out.bd.ints (by omega))
           have HSu:=Lib.hid hsu
           have hw3:IntKind.i64.wrap ((nn:Int)+1)=((nn+1:Nat):Int):=by rw[show (nn:Int)+1=((nn+1:Nat):Int) by omega];exact IntWalk.i64_in _ (by omega)
           clear hsu hu
           go_wp2_with fail
           refine HHs.out.mono ?_
           rintro e w8 ⟨rfl,rfl⟩
           by_cases huB:u∈Bv
           ·rw[decide_eq_true huB]
            have hsu:(nbs s Bv ((orbitL s d).take (t+1))).length=nn+1:=by rw[HSu.out,if_pos huB]
            have HSu:=Lib.hid hsu
            clear huB hsu
            go_wp2_with fail
            go_roundg (m-(t+1))
            case measure=>omega
            case rel=>exact⟨t+1,nn+1,by omega,by omega,by go_num,by go_num,rfl,HSu.out.symm,by omega⟩
           ·rw[decide_eq_false huB]
            have hsu:(nbs s Bv ((orbitL s d).take (t+1))).length=nn:=by rw[HSu.out,if_neg huB,Nat.add_zero]
            have HSu:=Lib.hid hsu
            clear huB hsu
            go_wp2_with fail
            go_roundg (m-(t+1))
            case measure=>omega
            case rel=>exact⟨t+1,nn,by omega,by omega,by go_num,by go_num,rfl,HSu.out.symm,by omega⟩
          ·obtain rfl:m=t:=by omega
           have hfr:nn=2↔FreeI' s (r ^^^ 1) A i:=by rw[HNn.out,HTk.out];exact H3.out
           rcases Nat.lt_or_ge i k with hik2|hik2
           ·have hn2:nn≠2:=fun e=>HMin.out i hik2 (hfr.1 e)
            have hb2:((nn:Int) != 2)=true:=by simp;omega
            have hb3:¬ ((nn:Int)=2):=by omega
            clear hfr
            go_wp2_with fail
            go_roundg (L-(i+1))
            case measure=>omega
            case rel=>exact⟨i+1,by omega,by omega,by omega,by go_num,rfl,rfl,by have t:=HT7.out;rw[←HBv.out] at t;exact t⟩
           ·obtain rfl:k=i:=by omega
            have hn2:nn=2:=hfr.2 HFr.out
            clear hfr
            subst hn2
            as_aux_lemma=>
             obtain⟨q1,q2,q3,q4⟩:=H1.out HFr.out
             have q5:=H2.out HFr.out
             obtain⟨J,hJ⟩:∃ J,arcN s p q=J:=⟨_,rfl⟩
             rw[hJ] at q2 q3 q4 q5
             have hJm:J<m:=arc_in HT.out H11.out H6.out m2 q3 q4
             have HQ1:=Lib.hid q1
             have HQ3:=Lib.hid q3
             have HQ5:=Lib.hid q5
             have HU:Hid (∀ t,t+1≤J→(nth (nbL s d) (t+1)=bn↔t+1=J)):=Lib.hid fun t ht=>by
              rw[H4.out (t+1) (by omega)]
              have it:=HT.out.itn (p:=p) H15.out (t+1)
              rw[H14.out.2.2] at it
              constructor
              ·intro e
               have e2:itf (at' s) (t+1) d=q:=HT.out.dbl _ _ it.1 H12.out (by rw[it.2,H8.out]) (by rw[e,H9.out])
               rcases Nat.lt_or_ge (t+1) J with g|g
               ·exact absurd e2 (q4 _ g)
               ·omega
              ·intro e
               rw[e,q3,H9.out]
             have hmc:m≤c7:=HA7.out.capLe HNl.out
             have hmb1:(1:Int)≤(m:Int):=by omega
             have hmb2:(m:Int)≤(c7:Int):=by omega
             have hb2:((2:Int) != 2)=false:=by decide
             have hm1w:((m:Int)-1)=((m-1:Nat):Int):=by omega
             clear q1 q3 q4 q5 hJ
             go_wp2_with fail
             have HGa:=Lib.hid (HA7.out.lt ga rfl).2
             have HZo:=Lib.hid HT7.out.sz
             obtain⟨w8,hw8⟩:∃ w8:World,w8=wr:=⟨_,rfl⟩
             subst hw8
             go_loopg [11,65] J (fun g v11 v65 wq=>∃ (t:Nat) (a8:Option Addr) (c8:Nat),t+1≤J∧J-t≤g∧v11=.slice a8 t c8∧v65=.int .i64 (t:Int)∧Trio R (w.alloc (.cells #[.slice a0 N c0,.int .i64 (r:Int),.int .i64 lone] 26)) (w.heap.size+1) (w.heap.size+1) wo.heap.size wq (.slice (some ⟨gb,0,none⟩) (L+1) cb) (.slice ag ol cg) (.slice (some ⟨gc,0,none⟩) 3 c2) Bv out.reverse [e0,e1,e2]∧OwnI R wo.heap.size 3 wq (.slice (some ⟨ga,0,none⟩) m c7) (nbL s d)∧OwnI R w8.heap.size 3 wq (.slice a8 t c8) ((innL s p J).take t)∧w8.heap.size≤wq.heap.size)
             case atStart=>exact⟨0,none,0,by omega,by omega,rfl,rfl,HT7.out,HA7.out,OwnI.nil _ _ _ _,Nat.le_refl _⟩
             case round=>
              obtain⟨t,a8,c8,htJ,hgt,rfl,rfl,htr,ha7,ho8,hz8⟩:=hrel
              as_aux_lemma=>
               have HT8:=Lib.hid htr
               have HA8:=Lib.hid ha7
               have HO8:=Lib.hid ho8
               have HZ8:=Lib.hid hz8
               clear htr ha7 ho8 hz8
               obtain⟨_,e,-,-,z0,-⟩:=HA8.out.headAt HNl.out (i:=t+1) (by omega)
               cases e
               rw[show t+1=1+t by omega] at z0
               have hut:=HU.out t htJ
               rw[show t+1=1+t by omega] at hut
               obtain⟨u,hu⟩:∃ u,nth (nbL s d) (1+t)=u:=⟨_,rfl⟩
               rw[hu] at z0 hut
               obtain⟨z1,-,z3⟩:=HBi.out _ _ HT8.out
               have hk1:IntKind.i64.wrap ((k:Int)+1)=(k:Int)+1:=IntWalk.i64_in _ (by omega)
               have hk2:(k:Int)+1<(L:Int)+1:=by omega
               have htm1:t<m-1:=by omega
               have htm2:(t:Int)<((m-1:Nat):Int):=by omega
               have htm3:(1:Int)+(t:Int)<(m:Int):=by omega
               have htm4:1+t<m:=by omega
               have HUe:=Lib.hid hu
               have HU2:=Lib.hid hut
               clear hu hut
               by_cases hlast:1+t=J
               ·have hub:u=bn:=HU2.out.2 (by omega)
                have HLa:=Lib.hid hlast
                clear hlast
                have hubb:(u == bn)=true:=beq_iff_eq.2 hub
                subst hub
                have hol2:(out.reverse).length=ol:=by rw[List.length_reverse,HOl.out]
                have HL1:=Lib.hid (OwnI.lit1 HT8.out.ev.inv (Nat.le_refl wr.heap.size) bi)
                have HT9:=Lib.hid (HT8.out.alloc (.cells #[.int .i64 bi] 3))
                have HZ9:Hid (w8.heap.size≤wr.heap.size∧wo.heap.size≤wr.heap.size):=Lib.hid ⟨HZ8.out,HT8.out.sz⟩
                have HOl2:=Lib.hid hol2
                clear hol2
                go_wp2_with (at_builtin;refine wpList_app_ys (R:=R) (B:=wr.heap.size) rfl _ _ rfl HL1.out rfl rfl _ _ _ out.reverse ?k1 rfl ?k2 ?k3 (le_alloc _ _) (fun q hq=>HT9.out.ev.inv.none_of_ge hq) ?_)
                case k1=>exact HOl.out
                case k2=>exact HT9.out.gn.ints
                case k3=>omega
                intro v10 w10 ho10 hg10 hs10
                obtain⟨a10,c10,rfl,-⟩:=ho10.ints.open
                rw[show (bi :: out.reverse).length=ol+1 by simp[HOl.out]] at ho10 ⊢
                have HT10:=Lib.hid (HT9.out.app HL1.out HZ9.out.2 HT0z.out hg10)
                have HI10:=Lib.hid ((HO8.out.alloc (.cells #[.int .i64 bi] 3)).keepNew HL1.out (fun k e=>(HO8.out.lt k e).2) hg10)
                have HZ10:Hid (wr.heap.size≤w10.heap.size∧∀ k,(Value.slice a8 t c8).ownBlock=some k→k<w10.heap.size):=Lib.hid ⟨by have:=hg10.size;simp at this;omega,fun k e=>by have:=(HO8.out.lt k e).2;have:=hg10.size;simp at this;omega⟩
                have HG10:=Lib.hid ho10
                clear ho10 hg10 hs10
                have hcb:L+1≤cb:=HT10.out.bd.capLe HBl.out
                have HL2:=Lib.hid (OwnI.lit0 HT10.out.ev.inv (Nat.le_refl w10.heap.size))
                have HT11:=Lib.hid (HT10.out.alloc (.cells #[] 3))
                have HDr:=Lib.hid (HT11.out.bd.ints.drop (k:=k+1) (by omega))
                have hkb1:(k:Int)+1≤(L:Int)+1:=by omega
                have hkb2:(L:Int)+1≤(cb:Int):=by omega
                go_wp2_with (at_builtin;refine wpList_app_ys (R:=R) (B:=w10.heap.size) rfl _ _ rfl HL2.out rfl rfl _ _ _ (Bv.drop (k+1)) ?l1 rfl ?l2 ?l3 (le_alloc _ _) (fun q hq=>HT11.out.ev.inv.none_of_ge hq) ?_)
                case l1=>rw[List.length_drop,HBl.out];omega
                case l2=>have t:=HDr.out;simp at t ⊢;exact t
                case l3=>omega
                intro v12 w12 ho12 hg12 hs12
                obtain⟨a12,c12,rfl,-⟩:=ho12.ints.open
                rw[show (Bv.drop (k+1)).length=L-k by rw[List.length_drop,HBl.out];omega] at ho12 ⊢
                have HT12:=Lib.hid (HT11.out.app HL2.out (by have:=HZ9.out.2;have:=HZ10.out.1;omega) HT0z.out hg12)
                have HI12:=Lib.hid ((HI10.out.alloc (.cells #[] 3)).keepNew HL2.out HZ10.out.2 hg12)
                have HG12:=Lib.hid ((HG10.out.alloc (.cells #[] 3)).keepNew HL2.out (fun k e=>(HG10.out.lt k e).2) hg12)
                have HR12:=Lib.hid ho12
                have HZ12:Hid (w10.heap.size≤w12.heap.size):=Lib.hid (by have:=hg12.size;simp at this;omega)
                clear ho12 hg12 hs12
                have HL3:=Lib.hid (OwnI.lit0 HT12.out.ev.inv (Nat.le_refl w12.heap.size))
                have HT13:=Lib.hid (HT12.out.alloc (.cells #[] 3))
                have HTa:=Lib.hid (HT13.out.bd.ints.take (k:=k) (by omega))
                have hkb3:(k:Int)≤(L:Int)+1:=by omega
                have hkb4:(k:Int)≤(cb:Int):=by omega
                have hkb5:(0:Int)≤(k:Int):=by omega
                go_wp2_with (at_builtin;refine wpList_app_ys (R:=R) (B:=w12.heap.size) rfl _ _ rfl HL3.out rfl rfl _ _ _ (Bv.take k) ?n1 rfl ?n2 ?n3 (le_alloc _ _) (fun q hq=>HT13.out.ev.inv.none_of_ge hq) ?_)
                case n1=>rw[List.length_take,HBl.out];omega
                case n2=>exact HTa.out
                case n3=>omega
                intro v14 w14 ho14 hg14 hs14
                obtain⟨a14,c14,rfl,-⟩:=ho14.ints.open
                rw[show (Bv.take k).length=k by rw[List.length_take,HBl.out];omega] at ho14 ⊢
                have HT14:=Lib.hid (HT13.out.app HL3.out (by have:=HZ9.out.2;have:=HZ10.out.1;have:=HZ12.out;omega) HT0z.out hg14)
                have HI14:=Lib.hid ((HI12.out.alloc (.cells #[] 3)).keepNew HL3.out (fun k e=>(HI12.out.lt k e).2) hg14)
                have HG14:=Lib.hid ((HG12.out.alloc (.cells #[] 3)).keepNew HL3.out (fun k e=>(HG12.out.lt k e).2) hg14)
                have HR14:=Lib.hid ((HR12.out.alloc (.cells #[] 3)).keepNew HL3.out (fun k e=>(HR12.out.lt k e).2) hg14)
                have HN14:=Lib.hid ho14
                have HZ14:Hid (w12.heap.size≤w14.heap.size):=Lib.hid (by have:=hg14.size;simp at this;omega)
                clear ho14 hg14 hs14
                have htJ2:t=J-1:=by have:=HLa.out;omega
                have HIl:Hid ((innL s p J).take t=innL s p J∧(innL s p J).length=t):=Lib.hid ⟨by rw[htJ2,←innL_len s p J];exact List.take_length,by rw[innL_len,htJ2]⟩
                rw[HIl.out.1] at HI14
                clear htJ2
                go_wp2_with (at_builtin;refine wpList_app_ys (R:=R) (B:=w12.heap.size) rfl _ _ rfl HN14.out (by rw[List.length_take,HBl.out];omega) rfl _ _ _ (innL s p J) HIl.out.2 rfl HI14.out.ints ?o3 HZ14.out (fun q hq=>HT14.out.ev.inv.none_of_ge hq) ?_)
                case o3=>omega
                intro v15 w15 ho15 hg15 hs15
                obtain⟨a15,c15,rfl,-⟩:=ho15.ints.open
                have hl15:(Bv.take k ++ innL s p J).length=k+t:=by rw[List.length_append,List.length_take,HBl.out,HIl.out.2];omega
                rw[hl15] at ho15 ⊢
                have HT15:=Lib.hid (HT14.out.app HN14.out (by have:=HZ9.out.2;have:=HZ10.out.1;have:=HZ12.out;omega) HT0z.out hg15)
                have HG15:=Lib.hid (HG14.out.keepNew HN14.out (fun k e=>(HG12.out.lt k e).2) hg15)
                have HR15:=Lib.hid (HR14.out.keepNew HN14.out (fun k e=>(HR12.out.lt k e).2) hg15)
                have HN15:=Lib.hid ho15
                have HL15:=Lib.hid hl15
                have HZ15:Hid (w14.heap.size≤w15.heap.size):=Lib.hid hg15.size
                clear ho15 hg15 hs15 hl15
                go_wp2_with (at_builtin;refine wpList_app_ys (R:=R) (B:=w12.heap.size) rfl _ _ rfl HN15.out HL15.out rfl _ _ _ (Bv.drop (k+1)) ?p1 rfl HR15.out.ints ?p3 (Nat.le_trans HZ14.out HZ15.out) (fun q hq=>HT15.out.ev.inv.none_of_ge hq) ?_)
                case p1=>rw[List.length_drop,HBl.out];omega
                case p3=>omega
                intro v16 w16 ho16 hg16 hs16
                obtain⟨a16,c16,rfl,-⟩:=ho16.ints.open
                have hq5:=HQ5.out
                rw[List.append_assoc] at hq5
                rw[←hq5] at ho16 ⊢
                have hbl:=HQ1.out.border_len HT.out HR.out
                have hbl2:(vtL s (cutA s A k ++ [r ^^^ 1])).length=k+t+(L-k):=by rw[HQ5.out,List.length_append,HL15.out,List.length_drop,HBl.out];omega
                have hA':(cutA s A k).length+1=k+t+(L-k):=by omega
                rw[hbl2] at ho16 ⊢
                have HTo2:=Lib.hid ((HTo.out.step HT.out HR.out HRun.out (by rw[HLe.out];exact hL2) HFr.out HMin.out))
                rw[H14.out.2.1] at HTo2
                have HA':=Lib.hid hA'
                have HT16:=Lib.hid (HT15.out.app HN15.out (by have:=HZ9.out.2;have:=HZ10.out.1;have:=HZ12.out;omega) HT0z.out hg16)
                have HG16:=Lib.hid (HG15.out.keepNew HN15.out (fun k e=>(HG12.out.lt k e).2) hg16)
                have HZs:Hid (w.heap.size+1≤wr.heap.size∧wr.heap.size≤w12.heap.size):=Lib.hid ⟨by have t1:=HT0z.out;have t2:=HZ9.out.2;simp at t1;omega,by have:=HZ10.out.1;have:=HZ12.out;omega⟩
                have hb16:=ho16.mono (show w.heap.size+1≤w12.heap.size by have:=HZs.out;omega)
                have HB16:=Lib.hid hb16
                have HGf:=Lib.hid (HG16.out.mono HZs.out.1)
                have HEnd:=Lib.hid (⟨HT16.out.ev,hb16,HGf.out,HT16.out.co,fun k e=>(HB16.out.lt k e).2,fun k e=>(HGf.out.lt k e).2,fun k e=>(HT16.out.co.lt k e).2,Nat.le_refl _⟩:Trio R (w.alloc (.cells #[.slice a0 N c0,.int .i64 (r:Int),.int .i64 lone] 26)) (w.heap.size+1) (w.heap.size+1) w16.heap.size w16 (.slice a16 (k+t+(L-k)) c16) (.slice a10 (ol+1) c10) (.slice (some ⟨gc,0,none⟩) 3 c2) (vtL s (cutA s A k ++ [r ^^^ 1])) (bi :: out.reverse) [e0,e1,e2])
                have hrev:(out ++ [nth (namesL s) q]).reverse=bi :: out.reverse:=by rw[List.reverse_append,←H13.out];rfl
                have HRev:=Lib.hid hrev
                have hoN:ol+1≤N:=by omega
                clear ho16 hg16 hs16 hq5 hbl hbl2 hA' hb16 hrev
                go_wp2_with fail
                go_roundg (N-(ol+1))
                case measure=>omega
                case rel=>
                 refine⟨cutA s A k,out ++ [nth (namesL s) q],a16,a10,c16,c10,HQ1.out,HTo2.out,?_,?_,?_,?_⟩
                 ·simp[HOl.out]
                 ·rw[HA'.out]
                 ·simp[HOl.out]
                 ·rw[HRev.out];exact HEnd.out
               ·
                have HLa:=Lib.hid hlast
                clear hlast
                have hub:u≠bn:=fun e=>HLa.out (by have:=HU2.out.1 e;omega)
                have hubb:(u == bn)=false:=beq_eq_false_iff_ne.2 hub
                have hin:(innL s p J).take (t+1)=(innL s p J).take t ++ [u]:=by
                 have hdp:d ^^^ 1=p:=by rw[←H14.out.2.2,xor_one_one]
                 rw[←hdp,innL_take (by have:=HLa.out;omega),←HUe.out,show 1+t=t+1 by omega,H4.out (t+1) (by omega)]
                have HIn:=Lib.hid hin
                have HTa:=Lib.hid (HT8.out.alloc (.cells #[.int .i64 u] 3))
                have HAa:=Lib.hid (HA8.out.alloc (.cells #[.int .i64 u] 3))
                have HOa:=Lib.hid (HO8.out.alloc (.cells #[.int .i64 u] 3))
                have HLn:Hid (((innL s p J).take t).length≤8388607):=Lib.hid (by rw[List.length_take];omega)
                clear hin hub
                go_wp2_with (at_builtin;refine wpList_app_int (R:=R) (B:=w8.heap.size) rfl _ _ rfl HOa.out rfl ⟨wr.heap.size,0,none⟩ 1 u rfl ?h1a ?h1b ?h1c ?h1d ?_)
                case h1a=>simp
                case h1b=>exact HLn.out
                case h1c=>have:=HZ8.out;first|omega|(simp;omega)
                case h1d=>exact fun q hq=>HTa.out.ev.inv.none_of_ge (by simp at hq ⊢;omega)
                intro v' w9 ho9 hg9 hs9
                obtain⟨a9,c9,rfl,-⟩:=ho9.ints.open
                have hll:((innL s p J).take t ++ [u]).length=t+1:=by rw[List.length_append,List.length_take,innL_len];simp;omega
                rw[hll] at ho9 ⊢
                have HT9:=Lib.hid (HTa.out.app HOa.out (by have:=HZo.out;omega) HT0z.out hg9)
                have HA9:=Lib.hid (HAa.out.keepNew HOa.out (fun k e=>by have:=(HA7.out.lt k e).2;omega) hg9)
                have HO9:=Lib.hid ho9
                have hz9:w8.heap.size≤w9.heap.size:=by have:=hg9.size;have:=HZ8.out;simp at *;omega
                clear ho9 hg9 hs9 hll
                go_wp2_with fail
                go_roundg (J-(t+1))
                case measure=>omega
                case rel=>exact⟨t+1,_,_,by have:=HLa.out;omega,by omega,rfl,by go_num,HT9.out,HA9.out,by rw[HIn.out];exact HO9.out,hz9⟩
    ·have hb:decide ((2:Int)<(L:Int)+1)=false:=decide_eq_false (by omega)
     have hdone:=HTo.out.done HT.out HR.out (by rw[HLe.out];omega)
     rw[HE01.out.1,HE01.out.2] at hdone
     have HDn:=Lib.hid hdone
     clear hdone
     have HCe:Hid (∀ (bo:Nat) (w':World) (v4 v5:Value) (Bl Gl:List Int),Trio R (w.alloc (.cells #[.slice a0 N c0,.int .i64 (r:Int),.int .i64 lone] 26)) (w.heap.size+1) (w.heap.size+1) bo w' v4 v5 (.slice (some ⟨gc,0,none⟩) 3 c2) Bl Gl [e0,e1,e2]→w'.cell? ⟨gc,0,none⟩=some (.int .i64 e0)∧w'.cell? ⟨gc,1,none⟩=some (.int .i64 e1)):=Lib.hid fun bo w' v4 v5 Bl Gl ht=>by
      obtain⟨_,e,-,-,y0,-⟩:=ht.co.headAt (rfl:([e0,e1,e2]:List Int).length=3) (i:=0) (by omega)
      cases e
      obtain⟨_,e,-,-,y1,-⟩:=ht.co.headAt (rfl:([e0,e1,e2]:List Int).length=3) (i:=1) (by omega)
      cases e
      exact⟨y0,y1⟩
     have HTd:=Lib.hid HT0.out.drew
     obtain⟨z0,z1⟩:=HCe.out _ _ _ _ _ _ HTd.out
     go_wp2_with fail
     refine wp_region_held_drew (S:=fun W=>W.cell? ⟨gc,0,none⟩=some (.int .i64 e0)∧W.cell? ⟨gc,1,none⟩=some (.int .i64 e1)) (by kernel_rfl) ⟨z0,z1⟩ (fun hHeld=>?_)
     refine tk 0 (v:=?ft12) ?gt12 ?_
     case gt12=>(intro w' ⟨s0,s1⟩;go_simp;try with_reducible rfl)
     try simp only[Act.put,rd]
     refine tk 1 (v:=?ft13) ?gt13 ?_
     case gt13=>(intro w' ⟨s0,s1⟩;go_simp;try with_reducible rfl)
     try simp only[Act.put,rd]
     refine tk 2 (v:=?ft14) ?gt14 ?_
     case gt14=>(intro w' ⟨s0,s1⟩;go_simp;try with_reducible rfl)
     try simp only[Act.put,rd]
     refine tk 3 (v:=?ft15) ?gt15 ?_
     case gt15=>(intro w' ⟨s0,s1⟩;go_simp;try with_reducible rfl)
     try simp only[Act.put,rd]
     refine tk 4 (v:=?ft16) ?gt16 ?_
     case gt16=>(intro w' ⟨s0,s1⟩;go_simp;try with_reducible rfl)
     try simp only[Act.put,rd]
     refine tk 5 (v:=?ft17) ?gt17 ?_
     case gt17=>(intro w' ⟨s0,s1⟩;go_simp;try with_reducible rfl)
     try simp only[Act.put,rd]
     refine tk 7 (v:=?ft18) ?gt18 ?_
     case gt18=>(intro w' ⟨s0,s1⟩;go_simp;try with_reducible rfl)
     try simp only[Act.put,rd]
     refine nx 6 fun K hK=>?_
     go_simp
     have HTe:=Lib.hid (HTd.out.alloc (.cells #[.int .i64 e0,.int .i64 e1] 3))
     have HLi:=Lib.hid (OwnI.lit2 HTd.out.ev.inv (Nat.le_refl wo.drew.heap.size) e0 e1)
     refine hK.out _ _ (HCe.out _ _ _ _ _ _ HTe.out) (fun hHeld2=>?_)
     clear hHeld
     try simp only[Act.put,rd]
     refine nx 8 fun K hK=>?_
     refine step_app_ys (R:=R) (B:=wo.drew.heap.size) rfl _ _ rfl HLi.out rfl rfl _ _ _ out.reverse (by rw[List.length_reverse,HOl.out]) rfl HTe.out.gn.ints (by omega) (le_alloc _ _) (fun q hq=>HTe.out.ev.inv.none_of_ge hq) ?_
     intro v9 w9 ho9 hg9 hs9
     have HT9:=Lib.hid (HTe.out.app HLi.out (Nat.le_refl _) HT0z.out hg9)
     have hz9:w.heap.size≤wo.drew.heap.size:=by have:=HT0z.out;simp at this ⊢;omega
     have hfin:OwnI R w.heap.size 3 w9 v9 (orderL s r):=by rw[HDn.out];exact ho9.mono hz9
     have HFin:=Lib.hid hfin
     clear ho9 hg9 hs9 hfin
     refine hK.out _ _ (HCe.out _ _ _ _ _ _ HT9.out) (fun hHeld3=>?_)
     try simp only[Act.put,rd]
     refine tk 9 (v:=?ft19) ?gt19 ?_
     case gt19=>(intro w' ⟨s0,s1⟩;go_simp;try with_reducible rfl)
     try simp only[Act.put,rd]
     refine wpAnyH_done (by kernel_rfl) ?_ _
     clear hHeld3
     go_wp2_with fail
     go_ret
     exact⟨_,rfl,HE1.out.trans HT9.out.ev,HFin.out⟩
end
section
set_option linter.unusedVariables false
set_option linter.unusedSectionVars false
noncomputable def chgTo (F:Nat→Bool) (T:List Nat) (i:Nat):Nat:=tally (fun i=>F (T.getD i 0)≠F (T.getD ((i+1) % T.length) 0)) i
theorem cntD_idx (f:Nat→Bool) (T:List Nat):∀ i,i≤T.length→cntD f (T.take i)=tally (fun j=>f (T.getD j 0)=true) i
 | 0,_=>by simp[cntD];rfl
 | i+1,hi=>by
  rw[cntD_take (by omega),cntD_idx f T i (by omega),tally_succ]
  congr 1
  rw[getD_at (by omega)]
  by_cases q:f (T[i]'(by omega))=true
  ·rw[if_pos q,ind_yes q]
  ·rw[if_neg q,ind_no q]
theorem orb_getD {s:List Nat} (h:TriS s) {d:Nat} (hd:d<s.length):∃ m,(orbitL s d).length=m∧0<m∧itf (at' s) m d=d∧∀ t,t<m→(orbitL s d).getD t 0=itf (at' s) t d:=by
 obtain⟨m,m0,m1,m2⟩:=orbitL_map h.perm hd
 have hl:(orbitL s d).length=m:=by rw[m2];simp
 refine⟨m,hl,m0,by rw[←it_itf];exact m1,fun t ht=>?_⟩
 rw[List.getD_eq_getElem?_getD,m2,List.getElem?_map,List.getElem?_range ht]
 simp[it_itf]
section
variable {s : List Nat} (h : TriS s)
include h
theorem chg_cnt {F:Nat→Bool} {d:Nat} (hd:d<s.length):chgTo F (orbitL s d) (orbitL s d).length=cntD (fun x=>F x != F (at' s x)) (orbitL s d):=by
 obtain⟨m,hl,m0,hm,hg⟩:=orb_getD h hd
 have e:=cntD_idx (fun x=>F x != F (at' s x)) (orbitL s d) (orbitL s d).length (Nat.le_refl _)
 rw[List.take_length] at e
 rw[e]
 unfold chgTo
 rw[hl]
 refine tally_congr fun i hi=>?_
 have e2:(orbitL s d).getD ((i+1) % m) 0=at' s (itf (at' s) i d):=by
  rcases Nat.lt_or_ge (i+1) m with q|q
  ·rw[Nat.mod_eq_of_lt q,hg _ q,itf_succ]
  ·have e3:i+1=m:=by omega
   rw[e3,Nat.mod_self,hg 0 m0,show at' s (itf (at' s) i d)=itf (at' s) (i+1) d from (itf_succ ..).symm,e3,hm]
   rfl
 rw[hg i hi,e2]
 exact bne_iff_ne.symm
theorem chg_begin {F:Nat→Bool} {d:Nat} (hd:d<s.length):chgTo F (orbitL s d) (orbitL s d).length=2*cntD (fun x=>F x && !F (at' (invL s) x)) (orbitL s d):=by
 rw[chg_cnt h hd,cnt_begin h hd,cnt_at h hd]
 have hv:∀ x,x<s.length→nth (namesL s) (at' s x)=nth (namesL s) x:=fun x hx=>names_turn h.perm hx
 have t1:=tally_split (fun x=>nth (namesL s) x=nth (namesL s) d∧(F x != F (at' s x))=true) (fun x=>F x=true) s.length
 have t2:=tally_split (fun x=>nth (namesL s) x=nth (namesL s) d∧F x=true) (fun x=>F (at' s x)=true) s.length
 have t3:=tally_split (fun x=>nth (namesL s) x=nth (namesL s) d∧F (at' s x)=true) (fun x=>F x=true) s.length
 have t4:tally (fun x=>nth (namesL s) x=nth (namesL s) d∧F (at' s x)=true) s.length=tally (fun x=>nth (namesL s) x=nth (namesL s) d∧F x=true) s.length:=by
  rw[←tally_perm h.perm.pm (fun x=>nth (namesL s) x=nth (namesL s) d∧F x=true)]
  exact tally_congr fun x hx=>by rw[hv x hx]
 have c1:tally (fun x=>(nth (namesL s) x=nth (namesL s) d∧(F x != F (at' s x))=true)∧F x=true) s.length=tally (fun x=>(nth (namesL s) x=nth (namesL s) d∧F x=true)∧¬ F (at' s x)=true) s.length:=tally_congr fun x _=>by
  cases F x <;> cases F (at' s x) <;> simp
 have c2:tally (fun x=>(nth (namesL s) x=nth (namesL s) d∧(F x != F (at' s x))=true)∧¬ F x=true) s.length=tally (fun x=>nth (namesL s) x=nth (namesL s) d∧F x=false∧F (at' s x)=true) s.length:=tally_congr fun x _=>by
  cases F x <;> cases F (at' s x) <;> simp
 have c3:tally (fun x=>(nth (namesL s) x=nth (namesL s) d∧F (at' s x)=true)∧F x=true) s.length=tally (fun x=>(nth (namesL s) x=nth (namesL s) d∧F x=true)∧F (at' s x)=true) s.length:=tally_congr fun x _=>by
  cases F x <;> cases F (at' s x) <;> simp
 have c4:tally (fun x=>(nth (namesL s) x=nth (namesL s) d∧F (at' s x)=true)∧¬ F x=true) s.length=tally (fun x=>nth (namesL s) x=nth (namesL s) d∧F x=false∧F (at' s x)=true) s.length:=tally_congr fun x _=>by
  cases F x <;> cases F (at' s x) <;> simp
 omega
theorem cnt_not {F:Nat→Bool} (T:List Nat):cntD (fun x=>!F x) T+cntD F T=T.length:=by
 unfold cntD
 induction T with
 | nil=>rfl
 | cons a T ih=>
  cases q:F a
  ·rw[List.filter_cons_of_pos (by simp[q]),List.filter_cons_of_neg (by simp[q])]
   simp only[List.length_cons]
   omega
  ·rw[List.filter_cons_of_neg (by simp[q]),List.filter_cons_of_pos (by simp[q])]
   simp only[List.length_cons]
   omega
def OkQ (s:List Nat) (P:List Int) (V d:Nat):Prop:=
 nth P (vtx s d)<2∨¬ (cntD (fun x=>ahdB s P (nth P (vtx s d)) x) (orbitL s d)<2∨(nth P (vtx s d)<(V:Int)-1∧(chgTo (fun x=>ahdB s P (nth P (vtx s d)) x) (orbitL s d) (orbitL s d).length≠2∨cntD (fun x=>ahdB s P (nth P (vtx s d)) x) (orbitL s d)=(orbitL s d).length)))
theorem okQ_okD {P:List Int} {V d:Nat} (hd:d<s.length) (hP:nth P (vtx s d)≤(V:Int)-1):OkQ s P V d↔OkD s P V d:=by
 unfold OkQ OkD
 have k1:=chg_begin h (F:=fun x=>ahdB s P (nth P (vtx s d)) x) hd
 have k2:=cnt_not h (F:=fun x=>ahdB s P (nth P (vtx s d)) x) (orbitL s d)
 generalize nth P (vtx s d)=p at *
 generalize cntD (fun x=>ahdB s P p x && !ahdB s P p (at' (invL s) x)) (orbitL s d)=a at *
 generalize cntD (fun x=>ahdB s P p x) (orbitL s d)=b at *
 generalize cntD (fun x=>!ahdB s P p x) (orbitL s d)=c at *
 generalize chgTo (fun x=>ahdB s P p x) (orbitL s d) (orbitL s d).length=g at *
 generalize (orbitL s d).length=m at *
 omega
theorem okQ_same {P:List Int} {V d d':Nat} (hd:d<s.length) (hd':d' < s.length) (e:vtx s d=vtx s d') (hP:nth P (vtx s d)≤(V:Int)-1):OkD s P V d↔OkD s P V d':=by
 have hn:nth (namesL s) d=nth (namesL s) d':=by rw[vtx_eq h.perm hd,vtx_eq h.perm hd',e]
 unfold OkD
 rw[e,cnt_at h hd,cnt_at h hd',cnt_at h hd,cnt_at h hd',cnt_at h hd,cnt_at h hd',hn]
end
end
end Go.Proofs.YtgphnkkdmlohlaaGreat
