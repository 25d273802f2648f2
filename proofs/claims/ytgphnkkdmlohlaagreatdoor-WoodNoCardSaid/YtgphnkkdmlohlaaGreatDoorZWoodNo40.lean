/- shell.left.first, inner. -/
import Derived.Test.YtgphnkkdmlohlaaGreatDoorZWoodNo38
import Derived.Test.YtgphnkkdmlohlaaGreatDoorZWoodNo39
import Derived.Test.YtgphnkkdmlohlaaGreatDoorZWoodNo09
import Derived.Test.YtgphnkkdmlohlaaGreatDoorZWoodNo20
import Derived.Test.YtgphnkkdmlohlaaGreatDoorZWoodNo36
import Derived.Test.YtgphnkkdmlohlaaGreatDoorZWoodNo28
import Derived.Test.YtgphnkkdmlohlaaGreatDoorZWoodNo08
namespace Go.Proofs.YtgphnkkdmlohlaaGreatDoor
section
open Go.RowKit
set_option linter.unusedVariables false
set_option linter.unusedSimpArgs false
set_option maxRecDepth 100000 in
set_option maxHeartbeats 2000000 in
theorem first_any (R:Reg) (w:World) (hI:Inv R w) (b k:Nat) (hk0:0<k) (hkl:k≤131074) (P:Nat→Prop) (hP:P k) (hmin:∀ l,0<l→l<k→¬ P l)
  (hF:∀ R' w',Ev R w R' w'→∀ i,0<i→i≤k→Calls Tryz.prog 95 #[.pointer (some ⟨b,0,none⟩),.int .i64 (i:Int)] w' (RetFree R' w' (P i))):
  Calls Tryz.prog 74 #[.pointer (some ⟨b,0,none⟩)] w (RetV R w (.int .i64 (k:Int))):=by
 have HF:=Lib.hid hF
 have HP:=Lib.hid hP
 have HM:=Lib.hid hmin
 have HI:=Lib.hid hI
 clear hF hP hmin hI
 go_enter Tryz.func74,Tryz.ntmps74
 go_wp2_with fail
 go_loopg [3] k (fun g v3 wr=>∃ (i:Nat) (R7:Reg),0<i∧i≤k∧k-i≤g∧v3=.int .i64 (i:Int)∧Ev R w R7 wr)
 case atStart=>exact⟨1,R,by omega,by omega,by omega,rfl,Ev.refl HI.out⟩
 case round=>
  obtain⟨i,R7,hi0,hi,hg,rfl,he⟩:=hrel
  have HE:=Lib.hid he
  have HF1:=Lib.hid (HF.out _ _ he i hi0 hi)
  clear he
  go_wp2_with fail
  refine HF1.out.mono ?_
  rintro e w1 ⟨bb,R8,rfl,hbb,he8⟩
  have HE8:=Lib.hid (HE.out.trans he8)
  clear he8
  cases bb
  ·have hne:i≠k:=fun e=>by
    subst e
    have:=hbb.2 HP.out
    cases this
   go_wp2_with fail
   go_roundg (k-(i+1))
   case measure=>omega
   case rel=>exact⟨i+1,R8,by omega,by omega,by omega,by go_num,HE8.out⟩
  ·obtain rfl:i=k:=by
    rcases Nat.lt_or_ge i k with q|q
    ·exact absurd (hbb.1 rfl) (HM.out i hi0 q)
    ·omega
   go_wp2_with fail
   go_ret
   exact⟨rfl,R8,HE8.out⟩
def RetInn (R:Reg) (w:World) (L:List Int) (e:Ending) (w':World):Prop:=∃ v R',e=.returned v∧Ev R w R' w'∧OwnI R' w.heap.size 3 w' v L
def innL (s:List Nat) (p J:Nat):List Int:=(List.range (J-1)).map fun k=>nth (namesL s) (itf (at' s) (k+1) (p ^^^ 1) ^^^ 1)
set_option maxRecDepth 100000 in
set_option maxHeartbeats 4000000 in
theorem inner_any (R:Reg) (w:World) (hI:Inv R w) (mp:Value) (s:List Nat) (rt:Int) (hp:MapAt R mp s rt 0) (h:TriS s) (b:Nat) (B:List Int) (V:Nat) (G:Nat→Bool) (D:List Int) (hL:LeftAt R w b mp B V G D) (hD:DartsOf s D)
  (i:Nat) (hi0:0<i) (hi:i+1<B.length) (hBn:B.length≤8388608) (p q:Nat) (hpl:p<s.length) (hq:q<s.length) (e1:nth B (i-1)=nth (namesL s) p) (e2:nth B i=nth (namesL s) (p ^^^ 1)) (e3:nth B (i+1)=nth (namesL s) (q ^^^ 1))
  (J:Nat) (hJ0:0<J) (hJn:J≤131074) (hJ:itf (at' s) J (p ^^^ 1)=q) (hJm:∀ l,l<J→itf (at' s) l (p ^^^ 1)≠q):
  Calls Tryz.prog 76 #[.pointer (some ⟨b,0,none⟩),.int .i64 (i:Int)] w (RetInn R w (innL s p J)):=by
 obtain⟨hS,hok⟩:=hp.ok hI
 have hpm:=xor_one_lt h.even hpl
 have hqm:=xor_one_lt h.even hq
 have HTo:=Lib.hid (fun R' w' (he:Ev R w R' w')=>by
  have:=to_any R' w' he.inv mp s rt (he.map hp) h b B V G D (hL.ev he) hD (p ^^^ 1) hpm
  rwa [xor_one_one] at this)
 have HMt:=Lib.hid (fun R' w' (he:Ev R w R' w') (d:Nat) (hd:d<s.length)=>by
  have:=mate_any R' w' he.inv mp s rt 0 (he.map hp) d
  rwa [mateI_in hd] at this)
 have HVx:=Lib.hid (fun R' w' (he:Ev R w R' w') (d:Nat) (hd:d<s.length)=>by
  have:=vertex_any R' w' he.inv mp s rt 0 (he.map hp) (d:Int)
  rwa [nameI_in hd,vtx_eq hS hd] at this)
 have HSg:=Lib.hid (fun R' w' (he:Ev R w R' w') (d:Nat) (hd:d<s.length)=>by
  have:=sigma_any R' w' he.inv mp s rt 0 (he.map hp) (d:Int)
  rwa [atI_in hd] at this)
 obtain⟨ab,cb,ag,cg,ad,cd,hX,hXB,_,_,_⟩:=hL.reads
 obtain⟨gb,ofb,rfl,hb0⟩:=hXB (i-1) (by omega)
 obtain⟨_,_,e,hb1⟩:=hXB i (by omega)
 cases e
 obtain⟨_,_,e,hb2⟩:=hXB (i+1) hi
 cases e
 rw[e1,vtx_eq hS hpl] at hb0
 rw[e2,vtx_eq hS hpm] at hb1
 rw[e3,vtx_eq hS hqm] at hb2
 have itl:∀ k,itf (at' s) k (p ^^^ 1)<s.length∧nth (namesL s) (itf (at' s) k (p ^^^ 1))=nth (namesL s) (p ^^^ 1):=fun k=>by
  induction k with
  | zero=>exact⟨hpm,rfl⟩
  | succ k ih=>rw[itf_succ];exact⟨hS.lt ih.1,by rw[names_turn hS ih.1,ih.2]⟩
 obtain⟨X,hX'⟩:∃ X:Nat→Nat,X=fun k=>itf (at' s) k (p ^^^ 1):=⟨_,rfl⟩
 have HXl:Hid (∀ k,X k<s.length∧X k ^^^ 1<s.length):=Lib.hid fun k=>by rw[hX'];exact⟨(itl k).1,xor_one_lt h.even (itl k).1⟩
 have HXs:Hid (∀ k,at' s (X k)=X (k+1)):=Lib.hid fun k=>by rw[hX'];exact (itf_succ _ _ _).symm
 have HX0:Hid (X 0=p ^^^ 1):=Lib.hid (by rw[hX'];rfl)
 have HXJ:Hid (∀ k,k≤J→(k=J∧vtx s (X k ^^^ 1)=vtx s (q ^^^ 1))∨(k≠J∧¬ ((vtx s (X k ^^^ 1):Nat):Int)=((vtx s (q ^^^ 1):Nat):Int))):=Lib.hid fun k hk=>by
  by_cases ek:k=J
  ·exact .inl ⟨ek,by rw[ek,hX'];show vtx s (itf (at' s) J (p ^^^ 1) ^^^ 1)=_;rw[hJ]⟩
  ·refine .inr ⟨ek,fun e=>hJm k (by omega) (h.dbl _ _ (itl k).1 hq ?_ ?_)⟩
   ·rw[(itl k).2,←(itl J).2,hJ]
   ·rw[vtx_eq hS (xor_one_lt h.even (itl k).1),vtx_eq hS hqm]
    rw[hX'] at e
    exact e
 have HLk:Hid (∀ k,k+1<J→(innL s p J).take (k+1)=(innL s p J).take k ++ [((vtx s (X (k+1) ^^^ 1):Nat):Int)]):=Lib.hid fun k hk=>by
  have hl:k<(innL s p J).length:=by unfold innL;simp;omega
  have e4:(innL s p J)[k]'hl=nth (namesL s) (itf (at' s) (k+1) (p ^^^ 1) ^^^ 1):=by simp[innL]
  rw[List.take_succ_eq_append_getElem hl,e4,hX',vtx_eq hS (xor_one_lt h.even (itl (k+1)).1)]
 have hLl:(innL s p J).length=J-1:=by unfold innL;simp
 obtain⟨I,hII⟩:∃ I,innL s p J=I:=⟨_,rfl⟩
 rw[hII] at HLk hLl ⊢
 have HLl:=Lib.hid hLl
 have HI:=Lib.hid hI
 obtain⟨bp,rfl,hbp⟩:=hp
 obtain⟨vq,hvq⟩:∃ v,vtx s (q ^^^ 1)=v:=⟨_,rfl⟩
 obtain⟨vp,hvp⟩:∃ v,vtx s p=v:=⟨_,rfl⟩
 obtain⟨vi,hvi⟩:∃ v,vtx s (p ^^^ 1)=v:=⟨_,rfl⟩
 obtain⟨n,hn⟩:∃ n,B.length=n:=⟨_,rfl⟩
 obtain⟨x0,hx0⟩:∃ x0,p ^^^ 1=x0:=⟨_,rfl⟩
 obtain⟨i0,hi0'⟩:∃ i0,i-1=i0:=⟨_,rfl⟩
 obtain⟨i2,hi2'⟩:∃ i2,i+1=i2:=⟨_,rfl⟩
 rw[hi0'] at hb0
 rw[hi2'] at hb2 hi
 have hw0:IntKind.i64.wrap ((i:Int)-1)=(i0:Int):=by rw[show (i:Int)-1=(i0:Int) by omega];exact IntWalk.i64_in _ (by omega)
 have hw2:IntKind.i64.wrap ((i:Int)+1)=(i2:Int):=by rw[show (i:Int)+1=(i2:Int) by omega];exact IntWalk.i64_in _ (by omega)
 rw[hvq] at hb2 HXJ
 rw[hvp] at hb0 HTo
 rw[hvi] at hb1 HTo
 rw[hn] at hi hX hBn
 have hi1:i<n:=by omega
 have hi00:i0<n:=by omega
 rw[hx0] at HTo HX0
 have HX:=Lib.hid (fun R' w' (he:Ev R w R' w')=>(⟨(hX R' w' he).1,(hX R' w' he).2.1,hb0 R' w' he,hb1 R' w' he,hb2 R' w' he⟩:w'.cell? ⟨b,0,none⟩=some (.pointer (some ⟨bp,0,none⟩))∧w'.cell? ⟨b,1,none⟩=some (.slice (some ⟨gb,ofb,none⟩) n cb)∧w'.cell? ⟨gb,ofb+i0,none⟩=some (.int .i64 (vp:Int))∧w'.cell? ⟨gb,ofb+i,none⟩=some (.int .i64 (vi:Int))∧w'.cell? ⟨gb,ofb+i2,none⟩=some (.int .i64 (vq:Int))))
 clear hX hXB hb0 hb1 hb2 hI hbp hS hok hL hD itl hX' hJ hJm hvq hvp hvi hn hx0 hII hLl hpm hqm hpl hq e1 e2 e3 h
 go_enter Tryz.func76,Tryz.ntmps76
 obtain⟨y0,y1,y2,y3,y4⟩:=HX.out _ _ (Ev.refl HI.out)
 go_wp2_with fail
 clear y0 y1 y2 y3 y4
 have HEd:=Lib.hid ((Ev.refl HI.out).drew)
 obtain⟨z0,z1,z2,z3,z4⟩:=HX.out _ _ HEd.out
 have hx0:X 0<s.length:=(HXl.out 0).1
 go_region_held3 (fun w'=>w'.cell? ⟨b,0,none⟩=some (.pointer (some ⟨bp,0,none⟩))∧w'.cell? ⟨b,1,none⟩=some (.slice (some ⟨gb,ofb,none⟩) n cb)∧w'.cell? ⟨gb,ofb+i0,none⟩=some (.int .i64 (vp:Int))∧w'.cell? ⟨gb,ofb+i,none⟩=some (.int .i64 (vi:Int))) (first|exact⟨z0,z1,z2,z3⟩|exact HY.out) (first|(go_at_call 100;refine (HTo.out _ _ HEd.out).mono ?_;rintro e w6 ⟨rfl,R6,he6⟩;have HE6:=Lib.hid (HEd.out.trans he6);have HY:=Lib.hid (⟨(HX.out _ _ HE6.out).1,(HX.out _ _ HE6.out).2.1,(HX.out _ _ HE6.out).2.2.1,(HX.out _ _ HE6.out).2.2.2.1⟩:w6.cell? ⟨b,0,none⟩=some (.pointer (some ⟨bp,0,none⟩))∧w6.cell? ⟨b,1,none⟩=some (.slice (some ⟨gb,ofb,none⟩) n cb)∧w6.cell? ⟨gb,ofb+i0,none⟩=some (.int .i64 (vp:Int))∧w6.cell? ⟨gb,ofb+i,none⟩=some (.int .i64 (vi:Int)));have HS6:=Lib.hid (HSg.out _ _ HE6.out x0 (by rw[←HX0.out];exact hx0));clear he6)|(go_at_call 46;refine HS6.out.mono ?_;rintro e w7 ⟨rfl,rfl⟩))
 clear z0 z1 z2 z3 z4
 go_wp2_with fail
 have hX1:X 1<s.length:=(HXl.out 1).1
 go_loopg [5,6] J (fun g v5 v6 wr=>∃ (k:Nat) (a7:Option Addr) (m7 c7:Nat) (R7:Reg),k+1≤J∧J-k≤g∧v5=.slice a7 m7 c7∧v6=.int .i64 (X (k+1):Int)∧Ev R w R7 wr∧OwnI R7 w.heap.size 3 wr (.slice a7 m7 c7) (I.take k))
 case atStart=>exact⟨0,none,0,0,R6,by omega,by omega,rfl,by rw[←HXs.out,HX0.out],HE6.out,OwnI.nil _ _ _ _⟩
 case round=>
  obtain⟨k,a7,m7,c7,R7,hk,hg,rfl,rfl,he,ho⟩:=hrel
  have HE:=Lib.hid he
  have HO:=Lib.hid ho
  clear he ho
  have hcase:=HXJ.out (k+1) hk
  obtain⟨hxl,hxm⟩:=HXl.out (k+1)
  have hxs:=HXs.out (k+1)
  have HLk1:=Lib.hid (HLk.out k)
  have HXl2:=Lib.hid (HXl.out (k+2)).1
  obtain⟨x,hx⟩:∃ x,X (k+1)=x:=⟨_,rfl⟩
  rw[hx] at hcase hxl hxm hxs HLk1 ⊢
  have HEd2:=Lib.hid HE.out.drew
  have HM1:=Lib.hid (HMt.out _ _ HEd2.out x hxl)
  have HV1:=Lib.hid (HVx.out _ _ HEd2.out (x ^^^ 1) hxm)
  have HMt2:=Lib.hid (fun R' w' (he:Ev R w R' w')=>HMt.out R' w' he x hxl)
  have HVx2:=Lib.hid (fun R' w' (he:Ev R w R' w')=>HVx.out R' w' he (x ^^^ 1) hxm)
  have HSg2:=Lib.hid (fun R' w' (he:Ev R w R' w')=>HSg.out R' w' he x hxl)
  rw[hxs] at HSg2
  obtain⟨y,hy⟩:∃ y,x ^^^ 1=y:=⟨_,rfl⟩
  rw[hy] at HM1 HV1 hcase HMt2 HVx2 HLk1
  obtain⟨vy,hvy⟩:∃ v,vtx s y=v:=⟨_,rfl⟩
  rw[hvy] at HV1 hcase HVx2 HLk1
  obtain⟨x2,hx2⟩:∃ x2,X (k+1+1)=x2:=⟨_,rfl⟩
  rw[hx2] at HSg2
  have HX2:=Lib.hid hx2
  have HCs:=Lib.hid hcase
  clear hy hvy hx2 hx hxs hcase hxl hxm
  obtain⟨z0,z1,z2,z3,z4⟩:=HX.out _ _ HEd2.out
  go_wp2_with fail
  go_region_held3 (fun w'=>w'.cell? ⟨b,0,none⟩=some (.pointer (some ⟨bp,0,none⟩))∧w'.cell? ⟨b,1,none⟩=some (.slice (some ⟨gb,ofb,none⟩) n cb)∧w'.cell? ⟨gb,ofb+i2,none⟩=some (.int .i64 (vq:Int))) (first|exact⟨z0,z1,z4⟩|exact HY2.out) (first|(go_at_call 47;refine HM1.out.mono ?_;rintro e w7 ⟨rfl,rfl⟩)|(go_at_call 54;refine HV1.out.mono ?_;rintro e w8 ⟨rfl,R8,he8⟩;have HE8:=Lib.hid (HEd2.out.trans he8);have HO8:=Lib.hid (HO.out.drew.ev he8);have HY2:=Lib.hid (⟨(HX.out _ _ HE8.out).1,(HX.out _ _ HE8.out).2.1,(HX.out _ _ HE8.out).2.2.2.2⟩:w8.cell? ⟨b,0,none⟩=some (.pointer (some ⟨bp,0,none⟩))∧w8.cell? ⟨b,1,none⟩=some (.slice (some ⟨gb,ofb,none⟩) n cb)∧w8.cell? ⟨gb,ofb+i2,none⟩=some (.int .i64 (vq:Int)));clear he8))
  rcases HCs.out with ⟨hkJ,hve⟩|⟨hkJ,hve⟩
  ·subst hve
   have hII:I.take k=I:=by rw[show k=I.length by rw[HLl.out];omega];exact List.take_length
   rw[hII] at HO8
   go_wp2_with fail
   go_ret
   exact⟨_,R8,rfl,HE8.out,HO8.out⟩
  ·have hk2:k+1<J:=by omega
   have HT:=Lib.hid (HLk1.out hk2)
   clear z0 z1 z2 z3 z4
   go_wp2_with fail
   have HE8d:=Lib.hid HE8.out.drew
   refine wp_region_held_drew (S:=(fun w':World=>w'.cell? ⟨b,0,none⟩=some (.pointer (some ⟨bp,0,none⟩)))) (by kernel_rfl) ((HX.out _ _ HE8d.out).1) (fun hHeld=>?_)
   refine tk 0 (v:=?fkd_0) ?gkd_0 ?_
   case gkd_0=>(intro w' s0;go_simp;try with_reducible rfl)
   try simp only[Act.put,rd]
   refine tk 1 (v:=?fkd_1) ?gkd_1 ?_
   case gkd_1=>(intro w' s0;go_simp;try with_reducible rfl)
   try simp only[Act.put,rd]
   refine tk 2 (v:=?fkd_2) ?gkd_2 ?_
   case gkd_2=>(intro w' s0;go_simp;try with_reducible rfl)
   try simp only[Act.put,rd]
   refine tk 3 (v:=?fkd_3) ?gkd_3 ?_
   case gkd_3=>(intro w' s0;go_simp;try with_reducible rfl)
   try simp only[Act.put,rd]
   refine tk 4 (v:=?fkd_4) ?gkd_4 ?_
   case gkd_4=>(intro w' s0;go_simp;try with_reducible rfl)
   try simp only[Act.put,rd]
   refine tk 5 (v:=?fkd_5) ?gkd_5 ?_
   case gkd_5=>(intro w' s0;go_simp;try with_reducible rfl)
   try simp only[Act.put,rd]
   refine tk 6 (v:=?fkd_6) ?gkd_6 ?_
   case gkd_6=>(intro w' s0;go_simp;try with_reducible rfl)
   try simp only[Act.put,rd]
   refine tk 7 (v:=?fkd_7) ?gkd_7 ?_
   case gkd_7=>(intro w' s0;go_simp;try with_reducible rfl)
   try simp only[Act.put,rd]
   refine tk 8 (v:=?fkd_8) ?gkd_8 ?_
   case gkd_8=>(intro w' s0;go_simp;try with_reducible rfl)
   try simp only[Act.put,rd]
   refine tk 9 (v:=?fkd_9) ?gkd_9 ?_
   case gkd_9=>(intro w' s0;go_simp;try with_reducible rfl)
   try simp only[Act.put,rd]
   refine nx 10 fun K hK=>?_
   go_simp
   refine (HMt2.out _ _ HE8d.out).mono ?_
   rintro z w9 ⟨rfl,rfl⟩
   go_simp
   refine hK.out _ _ ((HX.out _ _ HE8d.out).1) (fun hHeld2=>?_)
   clear hHeld
   refine nx 11 fun K hK=>?_
   go_simp
   refine (HVx2.out _ _ HE8d.out).mono ?_
   rintro z w9 ⟨rfl,R9,he9⟩
   have HE9:=Lib.hid (HE8d.out.trans he9)
   have HO9:=Lib.hid (HO8.out.drew.ev he9)
   clear he9
   go_simp
   refine hK.out _ _ ((HX.out _ _ HE9.out).1) (fun hHeld3=>?_)
   clear hHeld2
   have HE9a:=Lib.hid (HE9.out.alloc (.cells #[.int .i64 (vy:Int)] 3))
   have HO9a:=Lib.hid (HO9.out.alloc (.cells #[.int .i64 (vy:Int)] 3))
   refine nx 12 fun K hK=>?_
   go_simp
   refine hK.out _ _ ((HX.out _ _ HE9a.out).1) (fun hHeld4=>?_)
   clear hHeld3
   try simp only[Act.put,rd]
   refine nx 13 fun K hK=>?_
   refine step_app_int rfl _ _ rfl HO9a.out rfl ⟨w9.heap.size,0,none⟩ 1 (vy:Int) rfl ?P1 ?P2 ?P3 ?P4 ?_
   case P1=>exact cells_at (heap_alloc_new w9 (.cells #[.int .i64 (vy:Int)] 3)) 0
   case P2=>rw[List.length_take];have:=HLl.out;omega
   case P3=>exact HE9a.out.size
   case P4=>exact fun q hq=>HE9a.out.inv.none_of_ge hq
   intro u' w10 ho10 hg10 hs10
   obtain⟨aV,cV,eV,_⟩:=ho10.ints.open
   obtain⟨lV,hlV⟩:∃ l,(I.take k ++ [(vy:Int)]).length=l:=⟨_,rfl⟩
   rw[hlV] at eV
   subst eV
   clear hlV
   have HE10:=Lib.hid (HE9a.out.app HO9a.out (Nat.le_refl _) hg10)
   have HO10:=Lib.hid ho10
   clear ho10 hg10 hs10
   refine hK.out _ _ ((HX.out _ _ HE10.out).1) (fun hHeld5=>?_)
   clear hHeld4
   try simp only[Act.put,rd]
   refine tk 14 (v:=?fkd_14) ?gkd_14 ?_
   case gkd_14=>(intro w' s0;go_simp;try with_reducible rfl)
   try simp only[Act.put,rd]
   refine wpAnyH_done (by kernel_rfl) ?_ _
   clear hHeld5
   obtain⟨z0,z1,z2,z3,z4⟩:=HX.out _ _ HE10.out
   go_wp2_with fail
   refine (HSg2.out _ _ HE10.out).mono ?_
   rintro e w11 ⟨rfl,rfl⟩
   go_wp2_with fail
   go_roundg (J-(k+1))
   case measure=>omega
   case rel=>exact⟨k+1,_,_,_,R9,by omega,by omega,rfl,by rw[HX2.out],HE10.out,by rw[HT.out];exact HO10.out⟩
end
section
set_option linter.unusedVariables false
set_option linter.unusedSectionVars false
section
variable {s : List Nat} (h : TriS s)
include h
theorem TriS.itn {p:Nat} (hp:p<s.length) (k:Nat):itf (at' s) k (p ^^^ 1)<s.length∧nth (namesL s) (itf (at' s) k (p ^^^ 1))=nth (namesL s) (p ^^^ 1):=by
 induction k with
 | zero=>exact⟨xor_one_lt h.even hp,rfl⟩
 | succ k ih=>rw[itf_succ];exact⟨h.perm.lt ih.1,by rw[names_turn h.perm ih.1,ih.2]⟩
theorem TriS.mid_name {p:Nat} (hp:p<s.length) (k:Nat):nth (namesL s) (midZ s p k)=nth (namesL s) (itf (at' s) k (p ^^^ 1) ^^^ 1):=by
 have hX:=h.itn hp k
 have t1:=(h.tri hX.1).1
 have t3:midZ s p k=at' (phiL s) (at' s (itf (at' s) k (p ^^^ 1))) ^^^ 1:=by unfold midZ;rw[itf_succ]
 have t2:=names_turn h.perm (xor_one_lt h.even (h.phl (h.perm.lt hX.1)))
 rw[t1,←t3] at t2
 exact t2.symm
theorem TriS.arc_le {p q J:Nat} (hp:p<s.length) (h1:itf (at' s) J (p ^^^ 1)=q) (h2:∀ l,l<J→itf (at' s) l (p ^^^ 1)≠q):J≤s.length:=by
 rcases Nat.lt_or_ge s.length J with k|k
 ·obtain⟨a,b,hab,hb,e⟩:=pigeon s.length (fun k=>itf (at' s) k (p ^^^ 1)) (fun k _=>(h.itn hp k).1)
  have e:itf (at' s) a (p ^^^ 1)=itf (at' s) b (p ^^^ 1):=e
  have e3:p ^^^ 1=itf (at' s) (b-a) (p ^^^ 1):=h.perm.pm.itInj (xor_one_lt h.even hp) (h.itn hp _).1 a (by rw[←itf_add,show a+(b-a)=b by omega];exact e)
  have e4:itf (at' s) J (p ^^^ 1)=itf (at' s) (J-(b-a)) (p ^^^ 1):=by
   rw[←show J-(b-a)+(b-a)=J by omega,itf_add,←e3,show J-(b-a)+(b-a)-(b-a)=J-(b-a) by omega]
  exact absurd (by rw[←e4];exact h1) (h2 (J-(b-a)) (by omega))
 ·exact k
variable {r : Nat} (hr : r < s.length) {A : List Nat} {out : List Int} (hR : ShRun s r A out)
include hr hR
theorem ShRun.border_len:(vtL s (A ++ [r ^^^ 1])).length=A.length+1:=by unfold vtL;simp
theorem ShRun.border_at {i:Nat} (hi:i<A.length):nth (vtL s (A ++ [r ^^^ 1])) i=nth (namesL s) (A.getD i 0):=by
 rw[nth_at (by rw[hR.border_len h hr];omega),getD_at hi]
 unfold vtL
 rw[List.getElem_map,List.getElem_append_left hi]
theorem ShRun.names_step {i:Nat} (hi:FreeI' s (r ^^^ 1) A i):vtL s (cutA s A i ++ [r ^^^ 1])=(vtL s (A ++ [r ^^^ 1])).take i ++ innL s (A.getD (i-1) 0) (arcN s (A.getD (i-1) 0) (A.getD i 0)) ++ (vtL s (A ++ [r ^^^ 1])).drop (i+1):=by
 obtain⟨_,hJ0,_,_⟩:=hR.step h hr hi
 obtain⟨i1,i2,_⟩:=hi
 have plt:A.getD (i-1) 0<s.length:=(hR.mem h hr (List.mem_append_left _ (by rw[getD_at (by omega)];exact List.getElem_mem _))).1
 obtain⟨p,hp⟩:∃ p,A.getD (i-1) 0=p:=⟨_,rfl⟩
 obtain⟨J,hJ⟩:∃ J,arcN s p (A.getD i 0)=J:=⟨_,rfl⟩
 have hA:A.take i=A.take (i-1) ++ [p]:=by
  have:=List.take_succ_eq_append_getElem (l:=A) (i:=i-1) (by omega)
  rw[show i-1+1=i by omega] at this
  rw[this,←hp,getD_at (by omega)]
 unfold cutA
 rw[hp] at plt hJ0 ⊢
 rw[hJ] at hJ0 ⊢
 obtain⟨j,rfl⟩:∃ j,J=j+1:=⟨J-1,by omega⟩
 unfold vtL innL
 rw[←List.map_take,List.take_append_of_le_length (by omega),hA,←List.map_drop,List.drop_append_of_le_length (by omega),List.range_succ_eq_map]
 simp only[List.map_append,List.map_cons,List.map_nil,List.map_map,List.append_assoc,List.cons_append,List.nil_append,Nat.add_sub_cancel,h.mid_name plt]
 congr 2
 ·show nth (namesL s) ((p ^^^ 1) ^^^ 1)=_
  rw[xor_one_one]
 ·congr 1
  refine List.map_congr_left fun k _=>?_
  simp only[Function.comp_apply,h.mid_name plt]
end
end
section
open Go.RowKit
set_option linter.unusedVariables false
set_option linter.unusedSimpArgs false
theorem Ev.cellAt {R R':Reg} {w w':World} (he:Ev R w R' w') {b:Nat} {u:Value} (hb:R b=none) (hc:w.cell? ⟨b,0,none⟩=some u):w'.cell? ⟨b,0,none⟩=some u:=(he.cell (lt_of_cell hc) hb).trans hc
end
section
set_option linter.unusedVariables false
set_option linter.unusedSectionVars false
section
variable {s : List Nat} (h : TriS s) {r : Nat} (hr : r < s.length) {A : List Nat} {out : List Int} (hR : ShRun s r A out)
include h hr hR
theorem ShRun.getD_mem {i:Nat} (hi:i<A.length):A.getD i 0∈A ++ [r ^^^ 1]:=List.mem_append_left _ (by rw[getD_at hi];exact List.getElem_mem _)
theorem ShRun.name_mem {x:Nat} (hx:x∈A ++ [r ^^^ 1]):nth (namesL s) x∈vtL s (A ++ [r ^^^ 1]):=List.mem_map_of_mem hx
theorem ShRun.adj {i:Nat} (h0:0<i) (hi:i<A.length):nth (namesL s) (A.getD (i-1) 0 ^^^ 1)=nth (namesL s) (A.getD i 0)∧A.getD i 0≠A.getD (i-1) 0 ^^^ 1 ∧
  nth (namesL s) (A.getD i 0 ^^^ 1)=nth (vtL s (A ++ [r ^^^ 1])) (i+1)∧nth (namesL s) (A.getD i 0 ^^^ 1)∈vtL s (A ++ [r ^^^ 1]):=by
 have hA:=split_at2 h0 hi
 obtain⟨p,hp⟩:∃ p,A.getD (i-1) 0=p:=⟨_,rfl⟩
 obtain⟨q,hq⟩:∃ q,A.getD i 0=q:=⟨_,rfl⟩
 rw[hp,hq] at hA ⊢
 have hL:A ++ [r ^^^ 1]=(A.take (i-1) ++ p :: q :: A.drop (i+1)) ++ [r ^^^ 1]:=by rw[←hA]
 obtain⟨a1,_,_,_⟩:=adjs_two (c:=r ^^^ 1) (d:=r ^^^ 1) (P:=A.take (i-1)) (Q:=A.drop (i+1)) (p:=p) (q:=q)
 rw[←hL] at a1
 have a3:=adjs_get (r ^^^ 1) (A ++ [r ^^^ 1]) (i+1) (by simp;omega)
 have e1:((r ^^^ 1) :: (A ++ [r ^^^ 1])).getD (i+1) 0=q:=by
  rw[←hq,List.getD_cons_succ,List.getD_eq_getElem?_getD,List.getD_eq_getElem?_getD,List.getElem?_append_left hi]
 rw[e1] at a3
 have n1:=hR.shl.next h a1
 have n2:=hR.shl.next h a3
 have hlt:i+1<(A ++ [r ^^^ 1]).length:=by simp;omega
 have e2:nth (vtL s (A ++ [r ^^^ 1])) (i+1)=nth (namesL s) ((A ++ [r ^^^ 1]).getD (i+1) 0):=by
  rw[nth_at (by unfold vtL;rw[List.length_map];exact hlt),getD_at hlt]
  unfold vtL
  rw[List.getElem_map]
 refine⟨n1,fun e=>?_,by rw[n2,e2],by rw[n2];exact hR.name_mem h hr (adjs_mem a3).2⟩
 have e3:q ^^^ 1=p:=by rw[e,xor_one_one]
 rw[e3] at n2
 have hlt0:i-1<(A ++ [r ^^^ 1]).length:=by simp;omega
 have ep:(A ++ [r ^^^ 1]).getD (i-1) 0=p:=by
  rw[←hp,List.getD_eq_getElem?_getD,List.getD_eq_getElem?_getD,List.getElem?_append_left (by omega)]
 rw[←ep,getD_at hlt0,getD_at hlt] at n2
 have:=nodup_idx hR.shl.one (i:=i-1) (j:=i+1) (by rw[List.length_map];exact hlt0) (by rw[List.length_map];exact hlt) (by rw[List.getElem_map,List.getElem_map];exact n2)
 omega
theorem ShRun.free_ok {i:Nat} (h0:0<i) (hi:i<A.length) {d0:Nat} (hd:d0<s.length) (e:nth (namesL s) d0=nth (namesL s) (A.getD i 0)):
  (nbs s (vtL s (A ++ [r ^^^ 1])) (orbitL s d0)).length=2↔FreeI' s (r ^^^ 1) A i:=by
 obtain⟨k1,k2,_,k4⟩:=hR.adj h hr h0 hi
 have hq:=(hR.mem h hr (hR.getD_mem h hr hi)).1
 have hp:=(hR.mem h hr (hR.getD_mem h hr (i:=i-1) (by omega))).1
 rw[free_iff h hd hq hp e k1 k2 (hR.name_mem h hr (hR.getD_mem h hr (i:=i-1) (by omega))) k4]
 exact⟨fun k=>⟨h0,hi,k⟩,fun k=>k.2.2⟩
end
end
section
open Go.RowKit
set_option linter.unusedVariables false
set_option linter.unusedSimpArgs false
end
section
set_option linter.unusedVariables false
set_option linter.unusedSectionVars false
section
variable {s : List Nat} (h : TriS s)
include h
variable {r : Nat} (hr : r < s.length)
include hr
end
end
section
set_option linter.unusedVariables false
set_option linter.unusedSectionVars false
section
variable {s : List Nat} (h : TriS s) {r : Nat} (hr : r < s.length) {pl : Int → Nat} (hp : Place (orderL s r) pl)
include h hr hp
end
end
end Go.Proofs.YtgphnkkdmlohlaaGreatDoor
