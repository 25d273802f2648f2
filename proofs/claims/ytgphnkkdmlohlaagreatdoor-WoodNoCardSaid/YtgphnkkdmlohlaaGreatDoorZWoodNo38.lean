/- shell.left: to, free, inner, first. -/
import Derived.Test.YtgphnkkdmlohlaaGreatDoorZWoodNo36
import Derived.Test.YtgphnkkdmlohlaaGreatDoorZWoodNo33
import Derived.Test.YtgphnkkdmlohlaaGreatDoorZWoodNo37
import Derived.Test.YtgphnkkdmlohlaaGreatDoorZWoodNo28
namespace Go.Proofs.YtgphnkkdmlohlaaGreatDoor
section
open Go.RowKit
set_option linter.unusedVariables false
set_option linter.unusedSimpArgs false
def LeftAt (R:Reg) (w:World) (b:Nat) (p:Value) (B:List Int) (V:Nat) (G:Nat→Bool) (D:List Int):Prop:=
 ∃ ab cb ag cg ad cd,w.heap[b]?=some (.cells #[p,.slice ab B.length cb,.slice ag V cg,.slice ad D.length cd] 104 (0,0))∧R b=none ∧
  FreeI R w (.slice ab B.length cb) B∧FreeT R w (.slice ag V cg) V G∧FreeI R w (.slice ad D.length cd) D
theorem LeftAt.ev {R R':Reg} {w w':World} {b:Nat} {p:Value} {B:List Int} {V:Nat} {G:Nat→Bool} {D:List Int} (h:LeftAt R w b p B V G D) (he:Ev R w R' w'):LeftAt R' w' b p B V G D:=by
 obtain⟨ab,cb,ag,cg,ad,cd,h1,h2,h3,h4,h5⟩:=h
 exact⟨ab,cb,ag,cg,ad,cd,(he.block b (lt_of_block h1) h2).trans h1,he.free b (lt_of_block h1) h2,h3.ev he,h4.ev he,h5.ev he⟩
def DartsOf (s:List Nat) (D:List Int):Prop:=D.length=(sizesL s).length∧∀ v,v<D.length→∃ d:Nat,nth D v=(d:Int)∧d<s.length∧vtx s d=v
theorem FreeI.later {R:Reg} {w:World} {a:Option Addr} {n c:Nat} {xs:List Int} (h:FreeI R w (.slice a n c) xs) {i:Nat} (hi:i<xs.length):∃ g off,a=some ⟨g,off,none⟩∧∀ R' w',Ev R w R' w'→w'.cell? ⟨g,off+i,none⟩=some (.int .i64 (nth xs i)):=by
 obtain⟨_,_,e,_,_,hc⟩:=h.1
 injection e with e1 e2 e3
 obtain⟨g,off,e4,hc⟩:=hc i hi
 refine⟨g,off,by rw[e1,e4],fun R' w' he=>?_⟩
 have hR:R g=none:=by
  rcases h.2 with k|⟨g',off',n',c',k,hb⟩
  ·rw[k] at hi;simp at hi
  ·injection k with k1 _ _
   rw[e1,e4] at k1
   injection k1 with k1
   injection k1 with k1 _ _
   rw[k1];exact hb
 exact (he.cell (lt_of_cell hc) hR).trans hc
theorem LeftAt.reads {R:Reg} {w:World} {b:Nat} {p:Value} {B:List Int} {V:Nat} {G:Nat→Bool} {D:List Int} (h:LeftAt R w b p B V G D):
  ∃ ab cb ag cg ad cd,(∀ R' w',Ev R w R' w'→w'.cell? ⟨b,0,none⟩=some p∧w'.cell? ⟨b,1,none⟩=some (.slice ab B.length cb)∧w'.cell? ⟨b,2,none⟩=some (.slice ag V cg)∧w'.cell? ⟨b,3,none⟩=some (.slice ad D.length cd)) ∧
   (∀ i,i<B.length→∃ g off,ab=some ⟨g,off,none⟩∧∀ R' w',Ev R w R' w'→w'.cell? ⟨g,off+i,none⟩=some (.int .i64 (nth B i))) ∧
   (∀ i,i<V→∃ g off,ag=some ⟨g,off,none⟩∧∀ R' w',Ev R w R' w'→w'.cell? ⟨g,off+i,none⟩=some (.bool (G i))) ∧
   (∀ i,i<D.length→∃ g off,ad=some ⟨g,off,none⟩∧∀ R' w',Ev R w R' w'→w'.cell? ⟨g,off+i,none⟩=some (.int .i64 (nth D i)))∧FreeI R w (.slice ab B.length cb) B:=by
 obtain⟨ab,cb,ag,cg,ad,cd,h1,h2,h3,h4,h5⟩:=h
 refine⟨ab,cb,ag,cg,ad,cd,fun R' w' he=>?_,fun i hi=>h3.later hi,fun i hi=>?_,fun i hi=>h5.later hi,h3⟩
 ·have hb:=(he.block b (lt_of_block h1) h2).trans h1
  exact⟨cells_at hb 0,cells_at hb 1,cells_at hb 2,cells_at hb 3⟩
 ·obtain⟨_,_,e,_,hc⟩:=h4
  injection e with e1 e2 e3
  obtain⟨g,off,e4,hR,hc⟩:=hc i hi
  exact⟨g,off,by rw[e1,e4],fun R' w' he=>(he.cell (lt_of_cell hc) hR).trans hc⟩
set_option maxRecDepth 100000 in
set_option maxHeartbeats 2000000 in
theorem to_any (R:Reg) (w:World) (hI:Inv R w) (p:Value) (s:List Nat) (rt:Int) (hp:MapAt R p s rt 0) (h:TriS s) (b:Nat) (B:List Int) (V:Nat) (G:Nat→Bool) (D:List Int) (hL:LeftAt R w b p B V G D) (hD:DartsOf s D) (x:Nat) (hx:x<s.length):
  Calls Tryz.prog 100 #[.pointer (some ⟨b,0,none⟩),.int .i64 (vtx s x:Int),.int .i64 (vtx s (x ^^^ 1):Int)] w (RetV R w (.int .i64 (x:Int))):=by
 obtain⟨hS,hok⟩:=hp.ok hI
 have hV:=vtx_lt hS hx
 obtain⟨d0,hd0,hd0l,hd0v⟩:=hD.2 (vtx s x) (by rw[hD.1];exact hV)
 have HMt:=Lib.hid (fun R' w' (he:Ev R w R' w') (d:Nat) (hd:d<s.length)=>by
  have:=mate_any R' w' he.inv p s rt 0 (he.map hp) d
  rwa [mateI_in hd] at this)
 have HVx:=Lib.hid (fun R' w' (he:Ev R w R' w') (d:Nat) (hd:d<s.length)=>by
  have:=vertex_any R' w' he.inv p s rt 0 (he.map hp) (d:Int)
  rwa [nameI_in hd,vtx_eq hS hd] at this)
 have HAr:=Lib.hid (fun R' w' (he:Ev R w R' w')=>by
  have:=around_any R' w' he.inv p s rt 0 (he.map hp) (d0:Int)
  rwa [orbI_in hd0l] at this)
 obtain⟨ab,cb,ag,cg,ad,cd,hX,_,_,hXD,_⟩:=hL.reads
 have hVD:vtx s x<D.length:=by rw[hD.1];exact hV
 obtain⟨gd,off,rfl,hcv⟩:=hXD (vtx s x) hVD
 rw[hd0] at hcv
 have HI:=Lib.hid hI
 obtain⟨bp,rfl,hbp⟩:=hp
 obtain⟨T,hT⟩:∃ T,orbitL s d0=T:=⟨_,rfl⟩
 have hTm:∀ d,d∈T↔d<s.length∧nth (namesL s) d=nth (namesL s) d0:=fun d=>by rw[←hT];exact names_orbit hS hd0l
 have hnx:nth (namesL s) x=nth (namesL s) d0:=by rw[vtx_eq hS hx,vtx_eq hS hd0l,hd0v]
 obtain⟨jx,hjx,ejx⟩:=List.getElem_of_mem ((hTm x).2 ⟨hx,hnx⟩)
 have HTd:Hid (∀ i,i<T.length→∃ d:Nat,nth (toI T) i=(d:Int)∧d<s.length∧d ^^^ 1<s.length∧((d=x∧vtx s (d ^^^ 1)=vtx s (x ^^^ 1))∨(i≠jx∧¬ ((vtx s (d ^^^ 1):Nat):Int)=((vtx s (x ^^^ 1):Nat):Int)))):=Lib.hid fun i hi=>by
  obtain⟨k1,k2⟩:=(hTm T[i]).1 (List.getElem_mem hi)
  refine⟨T[i],by simp[nth,toI,hi],k1,xor_one_lt h.even k1,?_⟩
  by_cases e:T[i]=x
  ·exact .inl ⟨e,by rw[e]⟩
  ·refine .inr ⟨fun e2=>e (by subst e2;exact ejx),fun e2=>e (h.dbl _ _ k1 hx (by rw[k2,hnx]) ?_)⟩
   rw[vtx_eq hS (xor_one_lt h.even k1),vtx_eq hS (xor_one_lt h.even hx)]
   exact e2
 have HTl:=Lib.hid (toI_length T)
 have hTn:T.length≤131074:=by rw[←hT];have:=orbitL_length s d0;have:s.length≤131073:=hok.2.1;omega
 obtain⟨m,hm⟩:∃ m,T.length=m:=⟨_,rfl⟩
 rw[hm] at hjx HTd HTl hTn
 rw[hT] at HAr
 obtain⟨vx,hvx⟩:∃ vx,vtx s (x ^^^ 1)=vx:=⟨_,rfl⟩
 rw[hvx] at HTd ⊢
 clear hT hTm hnx ejx hm hvx hS hok
 obtain⟨va,hva⟩:∃ va,vtx s x=va:=⟨_,rfl⟩
 rw[hva] at hcv hVD ⊢
 have HX:=Lib.hid (fun R' w' (he:Ev R w R' w')=>(⟨(hX R' w' he).1,(hX R' w' he).2.2.2,hcv R' w' he⟩:w'.cell? ⟨b,0,none⟩=some (.pointer (some ⟨bp,0,none⟩))∧w'.cell? ⟨b,3,none⟩=some (.slice (some ⟨gd,off,none⟩) D.length cd)∧w'.cell? ⟨gd,off+va,none⟩=some (.int .i64 (d0:Int))))
 clear hX hXD hcv hI hbp
 go_enter Tryz.func100,Tryz.ntmps100
 go_wp2_with fail
 have HEd:=Lib.hid ((Ev.refl HI.out).drew)
 obtain⟨z0,z1,z2⟩:=HX.out _ _ HEd.out
 go_region_held3 (fun w'=>w'.cell? ⟨b,0,none⟩=some (.pointer (some ⟨bp,0,none⟩))∧w'.cell? ⟨b,3,none⟩=some (.slice (some ⟨gd,off,none⟩) D.length cd)∧w'.cell? ⟨gd,off+va,none⟩=some (.int .i64 (d0:Int))) (first|exact⟨z0,z1,z2⟩|exact HY.out) (first|(go_at_call 52;refine (HAr.out _ _ HEd.out).mono ?_;rintro e w6 ⟨v6,rfl,he6,ho6⟩;obtain⟨a6,c6,rfl,_⟩:=ho6.ints.open;rw[HTl.out] at ho6 ⊢;have HE6:=Lib.hid (HEd.out.trans he6);have HO6:=Lib.hid ho6;have HY:=Lib.hid (HX.out _ _ HE6.out);clear he6 ho6))
 go_wp2_with fail
 go_loopg [22] m (fun g v22 wr=>∃ (i:Nat) (R7:Reg),i≤jx∧m-i≤g∧v22=.int .i64 (i:Int)∧Ev R w R7 wr∧OwnI R7 w.drew.heap.size 3 wr (.slice a6 m c6) (toI T))
 case atStart=>exact⟨0,R,Nat.zero_le _,by omega,rfl,HE6.out,HO6.out⟩
 case round=>
  obtain⟨i,R7,hi,hg,rfl,he,hf⟩:=hrel
  have HE:=Lib.hid he
  have HF:=Lib.hid hf
  clear he hf
  have hil:i<m:=by omega
  obtain⟨gb,rfl,_,_,hc,_⟩:=HF.out.headAt HTl.out (i:=i) hil
  obtain⟨d,hdT,hds,hdm,hcase⟩:=HTd.out i hil
  rw[hdT] at hc
  clear hdT
  have HEd2:=Lib.hid HE.out.drew
  have HM1:=Lib.hid (HMt.out _ _ HEd2.out d hds)
  have HV1:=Lib.hid (HVx.out _ _ HEd2.out (d ^^^ 1) hdm)
  obtain⟨y,hy⟩:∃ y,d ^^^ 1=y:=⟨_,rfl⟩
  rw[hy] at HM1 HV1 hcase
  obtain⟨vy,hvy⟩:∃ v,vtx s y=v:=⟨_,rfl⟩
  rw[hvy] at HV1 hcase
  have z0:=(HX.out _ _ HEd2.out).1
  clear hy hvy
  go_wp2_with fail
  go_region_held3 (fun w'=>w'.cell? ⟨b,0,none⟩=some (.pointer (some ⟨bp,0,none⟩))) (first|exact z0|exact HY2.out) (first|(go_at_call 47;refine HM1.out.mono ?_;rintro e w7 ⟨rfl,rfl⟩)|(go_at_call 54;refine HV1.out.mono ?_;rintro e w8 ⟨rfl,R8,he8⟩;have HE8:=Lib.hid (HEd2.out.trans he8);have HF8:=Lib.hid (HF.out.drew.ev he8);have HY2:=Lib.hid (HX.out _ _ HE8.out).1;clear he8))
  rcases hcase with ⟨rfl,rfl⟩|⟨hne,hb⟩
  ·go_wp2_with fail
   go_ret
   exact⟨rfl,R8,HE8.out⟩
  ·go_wp2_with fail
   go_roundg (m-(i+1))
   case measure=>omega
   case rel=>exact⟨i+1,R8,by omega,by omega,by go_num,HE8.out,HF8.out⟩
end
section
open Go.RowKit
set_option linter.unusedVariables false
set_option linter.unusedSimpArgs false
theorem two_iff {L:List Nat} (hn:L.Nodup) {a b:Nat} (ha:a∈L) (hb:b∈L) (hab:a≠b):L.length=2↔∀ x,x∈L→x=a∨x=b:=by
 have n1:=hn.erase a
 have hb1:b∈L.erase a:=(hn.mem_erase_iff).2 ⟨fun e=>hab e.symm,hb⟩
 have l1:=List.length_erase_of_mem ha
 have l2:=List.length_erase_of_mem hb1
 have p1:=List.length_pos_of_mem ha
 have p2:=List.length_pos_of_mem hb1
 constructor
 ·intro h x hx
  refine Classical.byContradiction fun k=>?_
  have:x∈(L.erase a).erase b:=(n1.mem_erase_iff).2 ⟨fun e=>k (.inr e),(hn.mem_erase_iff).2 ⟨fun e=>k (.inl e),hx⟩⟩
  have:=List.length_pos_of_mem this
  omega
 ·intro h
  have:(L.erase a).erase b=[]:=List.eq_nil_iff_forall_not_mem.2 fun x hx=>by
   obtain⟨k1,k2⟩:=(n1.mem_erase_iff).1 hx
   obtain⟨k3,k4⟩:=(hn.mem_erase_iff).1 k2
   rcases h x k4 with e|e
   ·exact k3 e
   ·exact k1 e
  rw[this] at l2
  simp at l2
  omega
def nbs (s:List Nat) (B:List Int) (T:List Nat):List Nat:=T.filter fun d=>decide (nth (namesL s) (d ^^^ 1)∈B)
theorem free_iff {s A:List Nat} (h:TriS s) {c p q d0:Nat} (hd0:d0<s.length) (hq:q<s.length) (hp:p<s.length) (e0:nth (namesL s) d0=nth (namesL s) q) (e1:nth (namesL s) (p ^^^ 1)=nth (namesL s) q) (hne:q≠p ^^^ 1)
  (mp:nth (namesL s) p∈vtL s (A ++ [c])) (mq:nth (namesL s) (q ^^^ 1)∈vtL s (A ++ [c])):(nbs s (vtL s (A ++ [c])) (orbitL s d0)).length=2↔FreeD s A c p q:=by
 have hm:∀ x,x∈nbs s (vtL s (A ++ [c])) (orbitL s d0)↔x<s.length∧nth (namesL s) x=nth (namesL s) q∧nth (namesL s) (x ^^^ 1)∈vtL s (A ++ [c]):=fun x=>by
  unfold nbs
  rw[List.mem_filter,names_orbit h.perm hd0,e0,decide_eq_true_iff,and_assoc]
 refine (two_iff (L:=nbs s (vtL s (A ++ [c])) (orbitL s d0)) (List.Pairwise.filter _ (orbitL_nodup h.perm hd0)) ((hm q).2 ⟨hq,rfl,mq⟩) ((hm (p ^^^ 1)).2 ⟨xor_one_lt h.even hp,e1,by rw[xor_one_one];exact mp⟩) hne).trans ?_
 unfold FreeD
 refine forall_congr' fun x=>⟨fun k x1 x2 x3=>k ((hm x).2 ⟨x1,x2,?_⟩),fun k x1=>?_⟩
 ·obtain⟨y,y1,y2⟩:=x3
  exact List.mem_map.2 ⟨y,y1,y2.symm⟩
 ·obtain⟨k1,k2,k3⟩:=(hm x).1 x1
  obtain⟨y,y1,y2⟩:=List.mem_map.1 k3
  exact k k1 k2 ⟨y,y1,y2.symm⟩
def RetFree (R:Reg) (w:World) (P:Prop) (e:Ending) (w':World):Prop:=∃ bb R',e=.returned (.bool bb)∧(bb=true↔P)∧Ev R w R' w'
set_option maxRecDepth 100000 in
set_option maxHeartbeats 2000000 in
theorem free_any (R:Reg) (w:World) (hI:Inv R w) (p:Value) (s:List Nat) (rt:Int) (hp:MapAt R p s rt 0) (h:TriS s) (b:Nat) (B:List Int) (G:Nat→Bool) (D:List Int) (hL:LeftAt R w b p B (sizesL s).length G D) (hD:DartsOf s D)
  (hB:B.length≤8388608) (hG:∀ d,d<s.length→nth (namesL s) d∈B→G (vtx s d)=false) (i:Nat) (hi:i<B.length) (q:Nat) (hq:q<s.length) (hqB:nth B i=nth (namesL s) q) (P:Prop) (hP:∀ d0,d0<s.length→nth (namesL s) d0=nth (namesL s) q→((nbs s B (orbitL s d0)).length=2↔P)):
  Calls Tryz.prog 95 #[.pointer (some ⟨b,0,none⟩),.int .i64 (i:Int)] w (RetFree R w P):=by
 obtain⟨hS,hok⟩:=hp.ok hI
 have hV:=vtx_lt hS hq
 obtain⟨d0,hd0,hd0l,hd0v⟩:=hD.2 (vtx s q) (by rw[hD.1];exact hV)
 have HMt:=Lib.hid (fun R' w' (he:Ev R w R' w') (d:Nat) (hd:d<s.length)=>by
  have:=mate_any R' w' he.inv p s rt 0 (he.map hp) d
  rwa [mateI_in hd] at this)
 have HVx:=Lib.hid (fun R' w' (he:Ev R w R' w') (d:Nat) (hd:d<s.length)=>by
  have:=vertex_any R' w' he.inv p s rt 0 (he.map hp) (d:Int)
  rwa [nameI_in hd,vtx_eq hS hd] at this)
 have HAr:=Lib.hid (fun R' w' (he:Ev R w R' w')=>by
  have:=around_any R' w' he.inv p s rt 0 (he.map hp) (d0:Int)
  rwa [orbI_in hd0l] at this)
 obtain⟨ab,cb,ag,cg,ad,cd,hX,hXB,hXG,hXD,hfB⟩:=hL.reads
 have hVD:vtx s q<D.length:=by rw[hD.1];exact hV
 obtain⟨gd,off,rfl,hcv⟩:=hXD (vtx s q) hVD
 rw[hd0] at hcv
 obtain⟨gb,ofb,rfl,hcb⟩:=hXB i hi
 rw[hqB,vtx_eq hS hq] at hcb
 have HPd:=Lib.hid (hP d0 hd0l (by rw[vtx_eq hS hd0l,vtx_eq hS hq,hd0v]))
 have HCo:=Lib.hid (fun R' w' (he:Ev R w R' w') y=>contains_any w' _ _ _ B y (hfB.ev he).1 hB)
 have HI:=Lib.hid hI
 obtain⟨bp,rfl,hbp⟩:=hp
 obtain⟨T,hT⟩:∃ T,orbitL s d0=T:=⟨_,rfl⟩
 have hTm:∀ d,d∈T↔d<s.length∧nth (namesL s) d=nth (namesL s) d0:=fun d=>by rw[←hT];exact names_orbit hS hd0l
 have HTd:Hid (∀ j,j<T.length→∃ d:Nat,nth (toI T) j=(d:Int)∧d<s.length∧d ^^^ 1<s.length∧vtx s (d ^^^ 1)<(sizesL s).length ∧
   (((((vtx s (d ^^^ 1):Nat):Int)∈B)∧G (vtx s (d ^^^ 1))=false∧(nbs s B (T.take (j+1))).length=(nbs s B (T.take j)).length+1)∨(¬ ((vtx s (d ^^^ 1):Nat):Int)∈B∧(nbs s B (T.take (j+1))).length=(nbs s B (T.take j)).length))):=Lib.hid fun j hj=>by
  obtain⟨k1,k2⟩:=(hTm T[j]).1 (List.getElem_mem hj)
  have k3:=xor_one_lt h.even k1
  refine⟨T[j],by simp[nth,toI,hj],k1,k3,vtx_lt hS k3,?_⟩
  have e1:T.take (j+1)=T.take j ++ [T[j]]:=List.take_succ_eq_append_getElem hj
  rw[←vtx_eq hS k3,e1]
  unfold nbs
  rw[List.filter_append]
  by_cases e:nth (namesL s) (T[j] ^^^ 1)∈B
  ·exact .inl ⟨e,hG _ k3 e,by simp[e]⟩
  ·exact .inr ⟨e,by simp[e]⟩
 have HTl:=Lib.hid (toI_length T)
 have hTn:T.length≤131074:=by rw[←hT];have:=orbitL_length s d0;have:s.length≤131073:=hok.2.1;omega
 have hTa:T.take T.length=T:=List.take_length
 have hnl:∀ j,(nbs s B (T.take j)).length≤131074:=fun j=>by
  unfold nbs
  have:=List.length_filter_le (fun d=>decide (nth (namesL s) (d ^^^ 1)∈B)) (T.take j)
  rw[List.length_take] at this
  omega
 have HNl:=Lib.hid hnl
 rw[hT,←hTa] at HPd
 rw[hT] at HAr
 obtain⟨m,hm⟩:∃ m,T.length=m:=⟨_,rfl⟩
 rw[hm] at HTd HTl hTn HPd
 obtain⟨cN,hcN⟩:∃ cN:Nat→Nat,(fun j=>(nbs s B (T.take j)).length)=cN:=⟨_,rfl⟩
 have hcN':∀ j,(nbs s B (T.take j)).length=cN j:=fun j=>by rw[←hcN]
 simp only[hcN'] at HTd HPd HNl
 have HN0:=Lib.hid (show cN 0=0 by rw[←hcN',List.take_zero];rfl)
 obtain⟨va,hva⟩:∃ va,vtx s q=va:=⟨_,rfl⟩
 rw[hva] at hcv hVD hcb
 obtain⟨n,hn⟩:∃ n,B.length=n:=⟨_,rfl⟩
 have HN:=Lib.hid hn
 rw[hn] at hi hX HCo
 obtain⟨V,hVV⟩:∃ V,(sizesL s).length=V:=⟨_,rfl⟩
 rw[hVV] at HTd hX hXG
 have HXG:=Lib.hid hXG
 have HX:=Lib.hid (fun R' w' (he:Ev R w R' w')=>(⟨(hX R' w' he).1,(hX R' w' he).2.1,(hX R' w' he).2.2.1,(hX R' w' he).2.2.2,hcv R' w' he,hcb R' w' he⟩:w'.cell? ⟨b,0,none⟩=some (.pointer (some ⟨bp,0,none⟩))∧w'.cell? ⟨b,1,none⟩=some (.slice (some ⟨gb,ofb,none⟩) n cb)∧w'.cell? ⟨b,2,none⟩=some (.slice ag V cg)∧w'.cell? ⟨b,3,none⟩=some (.slice (some ⟨gd,off,none⟩) D.length cd)∧w'.cell? ⟨gd,off+va,none⟩=some (.int .i64 (d0:Int))∧w'.cell? ⟨gb,ofb+i,none⟩=some (.int .i64 (va:Int))))
 clear hX hXD hXB hXG hcv hcb hI hbp hT hTm hm hcN hcN' hnl hva hn hVV hS hok hP hG hTa hfB hL hD hd0 hV
 go_enter Tryz.func95,Tryz.ntmps95
 obtain⟨y0,y1,y2,y3,y4,y5⟩:=HX.out _ _ (Ev.refl HI.out)
 go_wp2_with fail
 clear y0 y1 y2 y3 y4 y5
 have HEd:=Lib.hid ((Ev.refl HI.out).drew)
 obtain⟨z0,z1,z2,z3,z4,z5⟩:=HX.out _ _ HEd.out
 go_region_held3 (fun w'=>w'.cell? ⟨b,0,none⟩=some (.pointer (some ⟨bp,0,none⟩))∧w'.cell? ⟨b,3,none⟩=some (.slice (some ⟨gd,off,none⟩) D.length cd)∧w'.cell? ⟨gd,off+va,none⟩=some (.int .i64 (d0:Int))) (first|exact⟨z0,z3,z4⟩|exact HY.out) (first|(go_at_call 52;refine (HAr.out _ _ HEd.out).mono ?_;rintro e w6 ⟨v6,rfl,he6,ho6⟩;obtain⟨a6,c6,rfl,_⟩:=ho6.ints.open;rw[HTl.out] at ho6 ⊢;have HE6:=Lib.hid (HEd.out.trans he6);have HO6:=Lib.hid ho6;have HY:=Lib.hid (⟨(HX.out _ _ HE6.out).1,(HX.out _ _ HE6.out).2.2.2.1,(HX.out _ _ HE6.out).2.2.2.2.1⟩:w6.cell? ⟨b,0,none⟩=some (.pointer (some ⟨bp,0,none⟩))∧w6.cell? ⟨b,3,none⟩=some (.slice (some ⟨gd,off,none⟩) D.length cd)∧w6.cell? ⟨gd,off+va,none⟩=some (.int .i64 (d0:Int)));clear he6 ho6))
 clear z0 z1 z2 z3 z4 z5
 go_wp2_with fail
 go_loopg [6,30] m (fun g v6 v30 wr=>∃ (j:Nat) (R7:Reg),j≤m∧m-j≤g∧v6=.int .i64 (cN j:Int)∧v30=.int .i64 (j:Int)∧Ev R w R7 wr∧OwnI R7 w.drew.heap.size 3 wr (.slice a6 m c6) (toI T))
 case atStart=>exact⟨0,R,Nat.zero_le _,by omega,by rw[HN0.out];rfl,rfl,HE6.out,HO6.out⟩
 case round=>
  obtain⟨j,R7,hj,hg,rfl,rfl,he,hf⟩:=hrel
  have HE:=Lib.hid he
  have HF:=Lib.hid hf
  clear he hf
  by_cases hil:j<m
  ·obtain⟨ga,rfl,_,_,hc,_⟩:=HF.out.headAt HTl.out (i:=j) hil
   obtain⟨d,hdT,hds,hdm,hvl,hcase⟩:=HTd.out j hil
   rw[hdT] at hc
   clear hdT
   have HEd2:=Lib.hid HE.out.drew
   have HM1:=Lib.hid (HMt.out _ _ HEd2.out d hds)
   have HV1:=Lib.hid (HVx.out _ _ HEd2.out (d ^^^ 1) hdm)
   obtain⟨y,hy⟩:∃ y,d ^^^ 1=y:=⟨_,rfl⟩
   rw[hy] at HM1 HV1 hcase hvl
   obtain⟨vy,hvy⟩:∃ v,vtx s y=v:=⟨_,rfl⟩
   rw[hvy] at HV1 hcase hvl
   have z0:=(HX.out _ _ HEd2.out).1
   have hcl:=HNl.out j
   have HCs:=Lib.hid hcase
   clear hy hvy hcase
   go_wp2_with fail
   go_region_held3 (fun w'=>w'.cell? ⟨b,0,none⟩=some (.pointer (some ⟨bp,0,none⟩))) (first|exact z0|exact HY2.out) (first|(go_at_call 47;refine HM1.out.mono ?_;rintro e w7 ⟨rfl,rfl⟩)|(go_at_call 54;refine HV1.out.mono ?_;rintro e w8 ⟨rfl,R8,he8⟩;have HE8:=Lib.hid (HEd2.out.trans he8);have HF8:=Lib.hid (HF.out.drew.ev he8);have HY2:=Lib.hid (HX.out _ _ HE8.out).1;clear he8))
   obtain⟨y0,y1,y2,y3,y4,y5⟩:=HX.out _ _ HE8.out
   obtain⟨gg,og,rfl,hcg⟩:=HXG.out vy hvl
   have hcg:=hcg _ _ HE8.out
   have HC8:=Lib.hid (HCo.out _ _ HE8.out (vy:Int))
   rcases HCs.out with ⟨hin,hG0,hcs⟩|⟨hin,hcs⟩
   ·rw[hG0] at hcg
    rw[decide_eq_true hin] at HC8
    clear z0
    go_wp2_with (go_at_call 111;refine HC8.out.mono ?_;rintro e w9 ⟨rfl,rfl⟩)
    go_roundg (m-(j+1))
    case measure=>omega
    case rel=>exact⟨j+1,R8,by omega,by omega,by rw[hcs];go_num,by go_num,HE8.out,HF8.out⟩
   ·rw[decide_eq_false hin] at HC8
    clear z0
    obtain⟨bg,hbg⟩:∃ bg,G vy=bg:=⟨_,rfl⟩
    rw[hbg] at hcg
    cases bg
    ·go_wp2_with (go_at_call 111;refine HC8.out.mono ?_;rintro e w9 ⟨rfl,rfl⟩)
     go_roundg (m-(j+1))
     case measure=>omega
     case rel=>exact⟨j+1,R8,by omega,by omega,by rw[hcs],by go_num,HE8.out,HF8.out⟩
    ·go_wp2_with fail
     go_roundg (m-(j+1))
     case measure=>omega
     case rel=>exact⟨j+1,R8,by omega,by omega,by rw[hcs],by go_num,HE8.out,HF8.out⟩
  ·obtain rfl:j=m:=by omega
   have hPj:=HPd.out
   obtain⟨N,hN⟩:∃ N,cN j=N:=⟨_,rfl⟩
   rw[hN] at hPj
   try rw[hN]
   have HPj:=Lib.hid hPj
   clear hPj hN
   go_wp2_with fail
   go_ret
   refine⟨_,R7,rfl,?_,HE.out⟩
   rw[←HPj.out]
   simp
   try omega
end
end Go.Proofs.YtgphnkkdmlohlaaGreatDoor
