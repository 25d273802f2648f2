/- parquetrylaw14: of, awake. -/
import Derived.Test.YtgphnkkdmlohlaaZShellRights39
import Derived.Test.YtgphnkkdmlohlaaZShellRights34
import Derived.Test.YtgphnkkdmlohlaaZShellRights13
import Derived.Test.YtgphnkkdmlohlaaZShellRights32
import Derived.Test.YtgphnkkdmlohlaaZShellRights18
import Derived.Test.YtgphnkkdmlohlaaZShellRights10
import Derived.Test.YtgphnkkdmlohlaaZShellRights36
import Derived.Test.YtgphnkkdmlohlaaZShellRights38
import Derived.Test.YtgphnkkdmlohlaaZShellRights08
import Derived.Test.YtgphnkkdmlohlaaZShellRights35
import Derived.Test.YtgphnkkdmlohlaaZShellRights37
import Derived.Test.YtgphnkkdmlohlaaZShellRights22
import Derived.Test.YtgphnkkdmlohlaaZShellRights40
namespace Go.Proofs.Ytgphnkkdmlohlaa
section
open Go.RowKit
set_option linter.unusedVariables false
theorem FreeI.six14 {R:Reg} {w:World} (hI:Inv R w) (a b c d e f:Int):FreeI R (w.alloc (.cells #[.int .i64 a,.int .i64 b,.int .i64 c,.int .i64 d,.int .i64 e,.int .i64 f] 3)) (.slice (some ⟨w.heap.size,0,none⟩) 6 6) [a,b,c,d,e,f]:=by
 have h:=World.ownsRow_lit (base:=w.heap.size) (e:=3) (size:=1) w #[.int .i64 a,.int .i64 b,.int .i64 c,.int .i64 d,.int .i64 e,.int .i64 f] 6 (Nat.le_refl _) (by simp[maxLen]) rfl
 have ho:OwnI R w.heap.size 3 (w.alloc (.cells #[.int .i64 a,.int .i64 b,.int .i64 c,.int .i64 d,.int .i64 e,.int .i64 f] 3)) (.slice (some ⟨w.heap.size,0,none⟩) 6 6) [a,b,c,d,e,f]:=by
  refine⟨by simpa using h,fun k hk=>?_⟩
  simp only[Value.ownBlock,Option.some.injEq] at hk
  rw[←hk]
  exact hI.none_of_ge (Nat.le_refl _)
 exact ho.free
theorem order_three {s:List Nat} (h:TriS s) {r:Nat} (hr:r<s.length) (h3:(sizesL s).length=3):orderL s r=cor3 s r:=by
 have hl:=order_len h hr
 have e2:=order_last h hr
 rw[h3] at hl e2
 unfold cor3
 refine List.ext_getElem (by rw[hl];rfl) fun i h1 h2=>?_
 have k:∀ i,(hi:i<(orderL s r).length)→(orderL s r)[i]=nth (orderL s r) i:=fun i hi=>(nth_at hi).symm
 rw[k i h1]
 match i,h2 with
 | 0,_=>rfl
 | 1,_=>rfl
 | 2,_=>exact e2
set_option maxRecDepth 100000 in
set_option maxHeartbeats 1000000 in
theorem of14_any (R:Reg) (w:World) (hI:Inv R w) (v:Value) (s:List Nat) (root lone:Int) (hv:FreeI R w v (toI s)) (hS:IsPerm s) (hok:MapOk s root lone):
  Calls Try.prog 6 #[refV v root lone] w fun e w'=>∃ p R',e=.returned p∧Ev R w R' w'∧MapAt R' p s root lone:=by
 obtain⟨a0,cap0,rfl,_⟩:=hv.open
 rw[toI_length] at hv ⊢
 unfold refV
 have he1:Ev R w R (w.alloc (.cells #[.slice a0 s.length cap0,.int .i64 root,.int .i64 lone] 27)):=(Ev.refl hI).alloc _
 have HN:=Lib.hid (new_yes R _ he1.inv _ s (hv.ev he1) root lone hS hok)
 have HE1:=Lib.hid he1
 clear hI hv hS hok he1
 go_enter Try.func6,Try.ntmps6
 go_wp2_with fail
 refine HN.out.mono ?_
 rintro e w2 ⟨p,R2,rfl,he2,hp⟩
 have HE2:=Lib.hid (HE1.out.trans he2)
 have HP:=Lib.hid hp
 clear he2 hp
 go_wp2_with fail
 go_ret
 exact⟨_,R2,rfl,HE2.out,HP.out⟩
set_option maxRecDepth 100000 in
set_option maxHeartbeats 2000000 in
theorem awake14_any (R:Reg) (w:World) (hI:Inv R w):Calls Try.prog 4 #[] w (RetTrue R w):=by
 have hok3:MapOk [5,2,1,4,3,0] 0 0:=by unfold MapOk;simp
 have HT:=Lib.hid triS_one
 have ho3:=order_three triS_one (r:=0) (by decide) (by decide +kernel)
 have HO3:=Lib.hid ho3
 have HF:=Lib.hid (of14_any R _ (hI.alloc _) _ [5,2,1,4,3,0] 0 0 (FreeI.six14 hI 5 2 1 4 3 0) triS_one.perm hok3)
 have HE0:=Lib.hid ((Ev.refl hI).alloc (.cells #[.int .i64 5,.int .i64 2,.int .i64 1,.int .i64 4,.int .i64 3,.int .i64 0] 3))
 obtain⟨C,hC⟩:∃ C,cor3 [5,2,1,4,3,0] 0=C:=⟨_,rfl⟩
 have hCl:C.length=3:=by rw[←hC];rfl
 have HC:=Lib.hid hC
 have HCl:=Lib.hid hCl
 unfold refV at HF
 clear hI hok3 ho3 hC hCl
 go_enter Try.func4,Try.ntmps4
 go_wp2_with fail
 refine HF.out.mono ?_
 rintro e w1 ⟨p,R1,rfl,he1,hp1⟩
 have HE1:=Lib.hid (HE0.out.trans he1)
 have ho:=sorder_any R1 w1 he1.inv p _ 0 (by exact hp1) HT.out (by decide)
 unfold RetOrd at ho
 rw[HO3.out,HC.out] at ho
 have HO:=Lib.hid ho
 have HCo:=Lib.hid (fun R' w' (he:Ev R1 w1 R' w')=>by
  have hc:=corners_tri R' w' he.inv p _ 0 (he.map hp1) HT.out (by decide)
  unfold RetCor at hc
  rwa [HC.out] at hc)
 clear he1 ho hp1 HF HO3 HC
 go_wp2_with fail
 refine HO.out.mono ?_
 rintro e w2 ⟨v2,R2,rfl,he2,ho2⟩
 obtain⟨a2,c2,rfl,_⟩:=ho2.ints.open
 rw[HCl.out] at ho2 ⊢
 have HE2:=Lib.hid (HE1.out.trans he2)
 have HCo:=Lib.hid (HCo.out _ _ he2)
 have HO2:=Lib.hid ho2
 clear he2 ho2 HO
 go_wp2_with fail
 refine HCo.out.mono ?_
 rintro e w3 ⟨v3,R3,rfl,he3,ho3⟩
 obtain⟨a3,c3,rfl,_⟩:=ho3.ints.open
 rw[HCl.out] at ho3 ⊢
 have HE3:=Lib.hid (HE2.out.trans he3)
 have HEq:=Lib.hid (equal_any R3 w3 he3.inv _ _ C C ((HO2.out.ev he3).ints) ho3.ints (by rw[HCl.out];omega) (by rw[HCl.out];omega))
 rw[eqL_true rfl] at HEq
 clear he3 ho3 HCo HO2
 go_wp2_with (go_at_call 12;refine HEq.out.mono ?_;rintro e w4 ⟨rfl,he4⟩;have HE4:=Lib.hid (HE3.out.trans he4);clear he4)
 go_ret
 exact⟨by first|rfl|simp,R3,HE4.out⟩
end
section
open Go.RowKit
set_option linter.unusedVariables false
set_option linter.unusedSimpArgs false
set_option maxRecDepth 100000 in
set_option maxHeartbeats 2000000 in
theorem r14corners_any (R:Reg) (w:World) (hI:Inv R w) (v:Value) (s:List Nat) (r:Nat) (lone:Int) (hv:FreeI R w v (toI s)) (hS:IsPerm s) (hes:s.length % 2=0) (hn:s.length≤4194304) (hr:r<s.length):
  Calls Try.prog 27 #[refV v (r:Int) lone] w (RetOwn R w (cor3 s r)):=by
 obtain⟨a0,c0,rfl,hv⟩:=hv.open
 rw[toI_length] at hv ⊢
 unfold refV
 have hph:=phiL_perm hS hes
 have hpl:=phiL_length s
 obtain⟨r1,hr1⟩:∃ x,at' (phiL s) r=x:=⟨_,rfl⟩
 obtain⟨r2,hr2⟩:∃ x,at' (phiL s) r1=x:=⟨_,rfl⟩
 have hl1:r1<s.length:=by rw[←hr1,←hpl];exact hph.lt (by rw[hpl];exact hr)
 have hl2:r2<s.length:=by rw[←hr2,←hpl];exact hph.lt (by rw[hpl];exact hl1)
 have he1:Ev R w R (w.alloc (.cells #[.slice a0 s.length c0,.int .i64 (r:Int),.int .i64 lone] 27)):=(Ev.refl hI).alloc _
 have HX:=Lib.hid (fun R' w' (h:Ev R (w.alloc (.cells #[.slice a0 s.length c0,.int .i64 (r:Int),.int .i64 lone] 27)) R' w')=>h.ref3 (hI.none_of_ge (Nat.le_refl _)))
 have HNm:=Lib.hid (fun w' (hee:Ev R w R w')=>rnames_any R w' hee.inv _ s (hv.ev hee) hS hn)
 have HPhi:=Lib.hid (fun w' (hee:Ev R w R w')=>rphi_any R w' hee.inv _ s (r:Int) lone (hv.ev hee) hn hes)
 unfold refV at HPhi
 have HE1:=Lib.hid he1
 obtain⟨N,hN⟩:∃ N,s.length=N:=⟨_,rfl⟩
 have hnl:(namesL s).length=N:=by rw[namesL_length,hN]
 have HNl:=Lib.hid hnl
 have HPl:=Lib.hid (show (toI (phiL s)).length=N by rw[toI_length,hpl,hN])
 have hp0:nth (toI (phiL s)) r=(r1:Int):=by rw[toI_nth,hr1]
 have hp1:nth (toI (phiL s)) r1=(r2:Int):=by rw[toI_nth,hr2]
 have HP0:=Lib.hid hp0
 have HP1:=Lib.hid hp1
 have HC:Hid (cor3 s r=[nth (namesL s) r,nth (namesL s) r1,nth (namesL s) r2]):=Lib.hid (by unfold cor3;rw[hr1,hr2])
 rw[hN] at hr hl1 hl2 HX HE1 HPhi HNm ⊢
 have HI:=Lib.hid hI
 clear hI hv hS hes hph hpl he1 hr1 hr2 hnl hp0 hp1
 go_enter Try.func27,Try.ntmps27
 go_wp2_with fail
 obtain⟨x0,x1,x2⟩:=HX.out _ _ (Ev.refl HE1.out.inv)
 go_wp2_with fail
 refine (HNm.out _ HE1.out).mono ?_
 rintro e w2 ⟨v2,rfl,he2,ho2⟩
 obtain⟨a2,c2,rfl,_⟩:=ho2.ints.open
 rw[HNl.out] at ho2 ⊢
 have HE2:=Lib.hid he2
 have HO2:=Lib.hid ho2
 clear he2 ho2 x0 x1 x2
 obtain⟨x0,x1,x2⟩:=HX.out _ _ HE2.out
 go_wp2_with fail
 refine (HPhi.out _ (HE1.out.trans HE2.out)).mono ?_
 rintro e w3 ⟨v3,rfl,he3,ho3⟩
 obtain⟨a3,c3,rfl,_⟩:=ho3.ints.open
 rw[HPl.out] at ho3 ⊢
 have HE3:=Lib.hid (HE2.out.trans he3)
 have HO2:=Lib.hid (HO2.out.ev he3)
 have HO3:=Lib.hid ho3
 clear he3 ho3 x0 x1 x2 HE2
 obtain⟨x0,x1,x2⟩:=HX.out _ _ HE3.out
 obtain⟨gn,rfl,_,_,y0,_⟩:=HO2.out.headAt HNl.out hr
 obtain⟨_,e,_,_,y1,_⟩:=HO2.out.headAt HNl.out hl1
 cases e
 obtain⟨_,e,_,_,y2,_⟩:=HO2.out.headAt HNl.out hl2
 cases e
 obtain⟨gp,rfl,_,_,z0,_⟩:=HO3.out.headAt HPl.out hr
 obtain⟨_,e,_,_,z1,_⟩:=HO3.out.headAt HPl.out hl1
 cases e
 rw[HP0.out] at z0
 rw[HP1.out] at z1
 go_wp2_with fail
 obtain⟨n0,hn0⟩:∃ x,nth (namesL s) r=x:=⟨_,rfl⟩
 obtain⟨n1,hn1⟩:∃ x,nth (namesL s) r1=x:=⟨_,rfl⟩
 obtain⟨n2,hn2⟩:∃ x,nth (namesL s) r2=x:=⟨_,rfl⟩
 have HC3:Hid (cor3 s r=[n0,n1,n2]):=Lib.hid (by rw[HC.out,hn0,hn1,hn2])
 rw[hn0] at y0
 rw[hn1] at y1
 rw[hn2] at y2
 clear hn0 hn1 hn2
 go_region
 go_wp2_with fail
 go_ret
 have HE4:=Lib.hid (HE1.out.trans HE3.out)
 have hno:=(OwnI.new3 (R:=R) (B:=w.heap.size) HE4.out.size (HE4.out.inv.none_of_ge (Nat.le_refl _)) n0 n1 n2).drew
 rw[←HC3.out] at hno
 exact⟨.slice (some ⟨w3.heap.size,0,none⟩) 3 3,rfl,(HE4.out.alloc _).drew,hno⟩
end
section
open Go.RowKit
set_option linter.unusedVariables false
set_option linter.unusedSimpArgs false
end
section
open Go.RowKit
set_option linter.unusedVariables false
set_option linter.unusedSimpArgs false
set_option linter.unusedSectionVars false
section
variable {s : List Nat} (h : TriS s) {d : Nat} (hd : d < s.length)
include h hd
end
end
section
set_option linter.unusedVariables false
set_option linter.unusedSectionVars false
noncomputable def chgTo (F:Nat→Bool) (T:List Nat) (i:Nat):Nat:=tally (fun i=>F (T.getD i 0)≠F (T.getD ((i+1) % T.length) 0)) i
theorem cntD_idx (f:Nat→Bool) (T:List Nat):∀ i,i≤T.length→cntD f (T.take i)=tally (fun j=>f (T.getD j 0)=true) i
 | 0,_=>by simp[cntD];rfl
 | i+1,hi=>by
  rw[cntD_take (by omega),cntD_idx f T i (by omega),tally_succ]
  congr 1
  rw[getD_at (by omega)]
  by_cases q:f (T[i]'(by omega))=true
  ·rw[if_pos q,ind_yes q]
  ·rw[if_neg q,ind_no q]
theorem orb_getD {s:List Nat} (h:TriS s) {d:Nat} (hd:d<s.length):∃ m,(orbitL s d).length=m∧0<m∧itf (at' s) m d=d∧∀ t,t<m→(orbitL s d).getD t 0=itf (at' s) t d:=by
 obtain⟨m,m0,m1,m2⟩:=orbitL_map h.perm hd
 have hl:(orbitL s d).length=m:=by rw[m2];simp
 refine⟨m,hl,m0,by rw[←it_itf];exact m1,fun t ht=>?_⟩
 rw[List.getD_eq_getElem?_getD,m2,List.getElem?_map,List.getElem?_range ht]
 simp[it_itf]
section
variable {s : List Nat} (h : TriS s)
include h
theorem chg_cnt {F:Nat→Bool} {d:Nat} (hd:d<s.length):chgTo F (orbitL s d) (orbitL s d).length=cntD (fun x=>F x != F (at' s x)) (orbitL s d):=by
 obtain⟨m,hl,m0,hm,hg⟩:=orb_getD h hd
 have e:=cntD_idx (fun x=>F x != F (at' s x)) (orbitL s d) (orbitL s d).length (Nat.le_refl _)
 rw[List.take_length] at e
 rw[e]
 unfold chgTo
 rw[hl]
 refine tally_congr fun i hi=>?_
 have e2:(orbitL s d).getD ((i+1) % m) 0=at' s (itf (at' s) i d):=by
  rcases Nat.lt_or_ge (i+1) m with q|q
  ·rw[Nat.mod_eq_of_lt q,hg _ q,itf_succ]
  ·have e3:i+1=m:=by omega
   rw[e3,Nat.mod_self,hg 0 m0,show at' s (itf (at' s) i d)=itf (at' s) (i+1) d from (itf_succ ..).symm,e3,hm]
   rfl
 rw[hg i hi,e2]
 exact bne_iff_ne.symm
theorem chg_begin {F:Nat→Bool} {d:Nat} (hd:d<s.length):chgTo F (orbitL s d) (orbitL s d).length=2*cntD (fun x=>F x && !F (at' (invL s) x)) (orbitL s d):=by
 rw[chg_cnt h hd,cnt_begin h hd,cnt_at h hd]
 have hv:∀ x,x<s.length→nth (namesL s) (at' s x)=nth (namesL s) x:=fun x hx=>names_turn h.perm hx
 have t1:=tally_split (fun x=>nth (namesL s) x=nth (namesL s) d∧(F x != F (at' s x))=true) (fun x=>F x=true) s.length
 have t2:=tally_split (fun x=>nth (namesL s) x=nth (namesL s) d∧F x=true) (fun x=>F (at' s x)=true) s.length
 have t3:=tally_split (fun x=>nth (namesL s) x=nth (namesL s) d∧F (at' s x)=true) (fun x=>F x=true) s.length
 have t4:tally (fun x=>nth (namesL s) x=nth (namesL s) d∧F (at' s x)=true) s.length=tally (fun x=>nth (namesL s) x=nth (namesL s) d∧F x=true) s.length:=by
  rw[←tally_perm h.perm.pm (fun x=>nth (namesL s) x=nth (namesL s) d∧F x=true)]
  exact tally_congr fun x hx=>by rw[hv x hx]
 have c1:tally (fun x=>(nth (namesL s) x=nth (namesL s) d∧(F x != F (at' s x))=true)∧F x=true) s.length=tally (fun x=>(nth (namesL s) x=nth (namesL s) d∧F x=true)∧¬ F (at' s x)=true) s.length:=tally_congr fun x _=>by
  cases F x <;> cases F (at' s x) <;> simp
 have c2:tally (fun x=>(nth (namesL s) x=nth (namesL s) d∧(F x != F (at' s x))=true)∧¬ F x=true) s.length=tally (fun x=>nth (namesL s) x=nth (namesL s) d∧F x=false∧F (at' s x)=true) s.length:=tally_congr fun x _=>by
  cases F x <;> cases F (at' s x) <;> simp
 have c3:tally (fun x=>(nth (namesL s) x=nth (namesL s) d∧F (at' s x)=true)∧F x=true) s.length=tally (fun x=>(nth (namesL s) x=nth (namesL s) d∧F x=true)∧F (at' s x)=true) s.length:=tally_congr fun x _=>by
  cases F x <;> cases F (at' s x) <;> simp
 have c4:tally (fun x=>(nth (namesL s) x=nth (namesL s) d∧F (at' s x)=true)∧¬ F x=true) s.length=tally (fun x=>nth (namesL s) x=nth (namesL s) d∧F x=false∧F (at' s x)=true) s.length:=tally_congr fun x _=>by
  cases F x <;> cases F (at' s x) <;> simp
 omega
theorem cnt_not {F:Nat→Bool} (T:List Nat):cntD (fun x=>!F x) T+cntD F T=T.length:=by
 unfold cntD
 induction T with
 | nil=>rfl
 | cons a T ih=>
  cases q:F a
  ·rw[List.filter_cons_of_pos (by simp[q]),List.filter_cons_of_neg (by simp[q])]
   simp only[List.length_cons]
   omega
  ·rw[List.filter_cons_of_neg (by simp[q]),List.filter_cons_of_pos (by simp[q])]
   simp only[List.length_cons]
   omega
def OkQ (s:List Nat) (P:List Int) (V d:Nat):Prop:=
 nth P (vtx s d)<2∨¬ (cntD (fun x=>ahdB s P (nth P (vtx s d)) x) (orbitL s d)<2∨(nth P (vtx s d)<(V:Int)-1∧(chgTo (fun x=>ahdB s P (nth P (vtx s d)) x) (orbitL s d) (orbitL s d).length≠2∨cntD (fun x=>ahdB s P (nth P (vtx s d)) x) (orbitL s d)=(orbitL s d).length)))
theorem okQ_okD {P:List Int} {V d:Nat} (hd:d<s.length) (hP:nth P (vtx s d)≤(V:Int)-1):OkQ s P V d↔OkD s P V d:=by
 unfold OkQ OkD
 have k1:=chg_begin h (F:=fun x=>ahdB s P (nth P (vtx s d)) x) hd
 have k2:=cnt_not h (F:=fun x=>ahdB s P (nth P (vtx s d)) x) (orbitL s d)
 generalize nth P (vtx s d)=p at *
 generalize cntD (fun x=>ahdB s P p x && !ahdB s P p (at' (invL s) x)) (orbitL s d)=a at *
 generalize cntD (fun x=>ahdB s P p x) (orbitL s d)=b at *
 generalize cntD (fun x=>!ahdB s P p x) (orbitL s d)=c at *
 generalize chgTo (fun x=>ahdB s P p x) (orbitL s d) (orbitL s d).length=g at *
 generalize (orbitL s d).length=m at *
 omega
theorem okQ_same {P:List Int} {V d d':Nat} (hd:d<s.length) (hd':d' < s.length) (e:vtx s d=vtx s d') (hP:nth P (vtx s d)≤(V:Int)-1):OkD s P V d↔OkD s P V d':=by
 have hn:nth (namesL s) d=nth (namesL s) d':=by rw[vtx_eq h.perm hd,vtx_eq h.perm hd',e]
 unfold OkD
 rw[e,cnt_at h hd,cnt_at h hd',cnt_at h hd,cnt_at h hd',cnt_at h hd,cnt_at h hd',hn]
end
end
end Go.Proofs.Ytgphnkkdmlohlaa
