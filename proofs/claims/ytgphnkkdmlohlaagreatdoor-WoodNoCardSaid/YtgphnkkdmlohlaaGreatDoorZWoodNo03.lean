/- Package slices (Clone, Equal at []int) and package perm: List, Same, Orbit. -/
import Derived.Test.YtgphnkkdmlohlaaGreatDoorZWoodNo02
import Derived.Lib.SliceRun
import Derived.Deep.LoopGhost
import Derived.Test.YtgphnkkdmlohlaaGreatDoorZWoodNo01
namespace Go.Proofs.YtgphnkkdmlohlaaGreatDoor
section
open Go.RowKit
set_option linter.unusedVariables false
def RetOwn (R:Reg) (w:World) (xs:List Int) (e:Ending) (w':World):Prop:=
 ∃ v,e=.returned v∧Ev R w R w'∧OwnI R w.heap.size 3 w' v xs
set_option maxHeartbeats 400000 in
theorem clone_any (R:Reg) (w:World) (hI:Inv R w) (v:Value) (xs:List Int) (hv:Ints w v xs) (hn:xs.length≤4194304):
  Calls Tryz.prog 38 #[v] w (RetOwn R w xs):=by
 have q25:∀ (w:World) (a:Option Addr) (n c n' c':Nat),(binOp .eql 25 (.slice a n c) (.slice none n' c')).run Tryz.prog w=.ok (.bool a.isNone) w:=fun w a n c n' c'=>Lib.run_eql_slice_nil w _ _ a n c n' c' Tryz.underlying25
 obtain⟨a,cap,rfl,hv⟩:=hv.open
 rcases a with _|ad
 ·have hx:xs=[]:=by
   rcases xs with _|⟨x,xs⟩
   ·rfl
   ·obtain⟨b,off,e,_⟩:=hv.cell (i:=0) (by simp)
    cases e
  subst hx
  have HI:=Lib.hid hI
  clear hv hI hn
  go_enter Tryz.func38,Tryz.ntmps38
  go_wp2
  go_ret
  exact⟨_,rfl,Ev.refl HI.out,OwnI.nil R _ _ w⟩
 ·have HV:=Lib.hid hv
  have HI:=Lib.hid hI
  clear hv hI
  go_enter Tryz.func38,Tryz.ntmps38
  go_wp2_with (at_builtin;refine wpList_app_ints (R:=R) (B:=w.heap.size) rfl _ _ rfl (xs:=[]) ⟨World.ownsRow_made w #[] 0 (Nat.le_refl _) (Nat.zero_le _) rfl,?q0⟩ rfl ad xs.length cap xs rfl rfl ?q1 ?q2 ?q3 ?q4 ?_)
  case q0=>
   intro k hk
   simp only[Value.ownBlock,Option.some.injEq] at hk
   exact HI.out.none_of_ge (by omega)
  case q1=>
   intro j hj
   obtain⟨b,off,e,hc⟩:=HV.out.cell hj
   cases e
   rw[Addr.add_lit,World.cell?_alloc_lt _ _ _ (lt_of_cell hc)]
   exact hc
  case q2=>simp;omega
  case q3=>simp
  case q4=>
   intro k hk
   exact HI.out.none_of_ge (by simp at hk;omega)
  intro v' w1 hown hg hsp
  have HO:=Lib.hid hown
  have HG:=Lib.hid hg
  clear hown hg hsp
  go_wp2
  go_ret
  refine⟨v',rfl,((Ev.refl HI.out).alloc _).grown HG.out ?_,by simpa using HO.out⟩
  intro k hk
  simp only[Value.ownBlock,Option.some.injEq] at hk
  exact⟨by omega,HI.out.none_of_ge (by omega)⟩
theorem toI_inj {s t:List Nat} (h:toI s=toI t):s=t:=by
 unfold toI at h
 refine (List.map_inj_right (fun a b h=>?_)).1 h
 exact Int.ofNat.inj h
end
section
open Go.RowKit
set_option linter.unusedVariables false
def orbI (s:List Nat) (i:Int):List Int:=if 0≤i∧i<s.length then toI (orbitL s i.toNat) else []
theorem orbI_out {s:List Nat} {i:Int} (h:i<0∨(s.length:Int)≤i):orbI s i=[]:=by
 unfold orbI;rw[if_neg (by omega)]
theorem orbI_in {s:List Nat} {i:Nat} (h:i<s.length):orbI s (i:Int)=toI (orbitL s i):=by
 unfold orbI;rw[if_pos (by omega)];simp
theorem toI_append (l:List Nat) (x:Nat):toI (l ++ [x])=toI l ++ [(x:Int)]:=by simp[toI]
set_option maxHeartbeats 1000000 in
theorem orbit_in (R:Reg) (w:World) (hI:Inv R w) (p:Value) (s:List Nat) (hp:PermAt R p s) (i:Nat) (hi:i<s.length):
  Calls Tryz.prog 85 #[p,.int .i64 (i:Int)] w (RetOwn R w (toI (orbitL s i))):=by
 have HL:=Lib.hid (len_any R w hI p s hp)
 obtain⟨b,rfl,hb⟩:=hp
 obtain⟨hP,hn,a,cap,d,vf,hfx,c0,_⟩:=hI.permCells hb
 obtain⟨b',off,rfl,hc⟩:=hfx.cell hI hi
 have hlt:=lt_of_cell c0
 have hlt':=lt_of_cell hc
 have h1:¬ ((i:Int)<0):=by omega
 have h2:decide (s.length≤i)=false:=by simp;omega
 have HI:=Lib.hid hI
 have HB:=Lib.hid hb
 have HP:=Lib.hid hP
 clear hfx hI hb hP
 go_enter Tryz.func85,Tryz.ntmps85
 go_wp2_with (go_at_call 65;refine HL.out.mono ?_;rintro e w' ⟨rfl,rfl⟩)
 clear hc
 go_loopg [5,6] s.length (fun g v x wr=>∃ (f:Nat) (l:List Nat) (y:Nat),f≤g∧x=.int .i64 (y:Int)∧y<s.length∧Reach s i f y∧l.length+f≤s.length+1∧l ++ orbitGo s i f y=orbitL s i∧Ev R w R wr∧OwnI R w.heap.size 3 wr v (toI l))
 case atStart=>
  refine⟨s.length,[i],at' s i,Nat.le_refl _,rfl,HP.out.lt hi,HP.out.reach hi,by simp;omega,rfl,(Ev.refl HI.out).alloc _,?_,?_⟩
  ·simpa [toI] using World.ownsRow_lit (base:=w.heap.size) (e:=3) (size:=1) w #[.int .i64 (i:Int)] 1 (Nat.le_refl _) (by simp[maxLen]) rfl
  ·intro k hk
   simp only[Value.ownBlock,Option.some.injEq] at hk
   exact HI.out.none_of_ge (by omega)
 case round=>
  obtain⟨f,l,y,hg,rfl,hy,hr,hlf,heq,he,ho⟩:=hrel
  have HR:=Lib.hid hr
  have HQ:=Lib.hid heq
  have HE:=Lib.hid he
  have HO:=Lib.hid ho
  clear hr heq he ho c0
  by_cases hyi:y=i
  ·subst hyi
   go_wp2
   go_ret
   refine⟨_,rfl,HE.out,?_⟩
   have e:=HQ.out
   rw[orbitGo_end,List.append_nil] at e
   rw[←e]
   exact HO.out
  ·obtain⟨f',hf,hr'⟩:=HR.out.next hyi
   have HR':=Lib.hid hr'
   have hi':¬ (y:Int)=(i:Int):=by omega
   have HLL:=Lib.hid (show l.length≤4194305 by omega)
   clear hr'
   go_wp2_with (at_builtin;refine wpList_app_int (R:=R) (B:=w.heap.size) rfl _ _ rfl (HO.out.alloc _) rfl ⟨wr.heap.size,0,none⟩ 1 (y:Int) rfl ?q1 ?q2 ?q3 ?q4 ?_)
   case q1=>simp
   case q2=>rw[toI_length];have:=HLL.out;omega
   case q3=>simp;have:=HE.out.size;omega
   case q4=>intro k hk;exact HE.out.inv.none_of_ge (by simp at hk;omega)
   intro v' w1 ho1 hg1 hs1
   have he1:=(HE.out.alloc (.cells #[.int .i64 (y:Int)] 3)).app (HO.out.alloc _) (Nat.le_refl _) hg1
   have HE1:=Lib.hid he1
   have HO1:=Lib.hid ho1
   obtain⟨_,_,a,cap,d,vf,hfx,c0,_⟩:=HE1.out.inv.permCells HB.out
   obtain⟨b',off,rfl,hc⟩:=hfx.cell HE1.out.inv hy
   clear hfx he1 ho1 hg1 hs1
   go_wp2
   go_roundg f'
   case measure=>omega
   case rel=>
    refine⟨f',l ++ [y],at' s y,Nat.le_refl _,rfl,HP.out.lt hy,HR'.out,by simp;omega,?_,HE1.out,?_⟩
    ·have e:=HQ.out
     rw[hf,orbitGo_next hyi] at e
     rw[←e]
     simp
    ·rw[toI_append];exact HO1.out
set_option maxHeartbeats 400000 in
theorem orbit_any (R:Reg) (w:World) (hI:Inv R w) (p:Value) (s:List Nat) (hp:PermAt R p s) (i:Int):
  Calls Tryz.prog 85 #[p,.int .i64 i] w (RetOwn R w (orbI s i)):=by
 by_cases hin:0≤i∧i<s.length
 ·obtain⟨k,rfl⟩:=Int.eq_ofNat_of_zero_le hin.1
  rw[orbI_in (by omega)]
  exact orbit_in R w hI p s hp k (by omega)
 ·have HA:=Lib.hid (orbI_out (s:=s) (i:=i) (by omega))
  have HI:=Lib.hid hI
  have HL:=Lib.hid (len_any R w hI p s hp)
  obtain⟨b,rfl,hb⟩:=hp
  clear hI hb
  by_cases h0:i<0
  ·clear hin
   go_enter Tryz.func85,Tryz.ntmps85
   go_wp2_with fail
   go_ret
   exact⟨_,rfl,Ev.refl HI.out,by rw[HA.out];exact OwnI.nil R _ _ w⟩
  ·have h2:(s.length:Int)≤i:=by omega
   clear hin
   go_enter Tryz.func85,Tryz.ntmps85
   go_wp2_with (go_at_call 65;refine HL.out.mono ?_;rintro e w' ⟨rfl,rfl⟩)
   go_ret
   exact⟨_,rfl,Ev.refl HI.out,by rw[HA.out];exact OwnI.nil R _ _ w⟩
end
section
open Go.RowKit
set_option linter.unusedVariables false
def PermI (xs:List Int):Prop:=∃ S,IsPerm S∧xs=toI S
theorem PermI.good {xs:List Int} (h:PermI xs):(∀ j,j<xs.length→0≤nth xs j∧nth xs j<xs.length)∧∀ i j,i<j→j<xs.length→nth xs i≠nth xs j:=by
 obtain⟨S,hS,rfl⟩:=h
 simp only[toI_length,toI_nth]
 refine⟨fun j hj=>⟨by omega,by have:=hS.lt hj;omega⟩,fun i j hij hj e=>?_⟩
 have:=hS.inj (i:=i) (j:=j) (by omega) hj (by omega)
 omega
theorem PermI.of_good {xs:List Int} (h1:∀ j,j<xs.length→0≤nth xs j∧nth xs j<xs.length) (h2:∀ i j,i<j→j<xs.length→nth xs i≠nth xs j):PermI xs:=by
 have hg:∀ i (h:i<xs.length),nth xs i=xs[i]:=fun i h=>by simp[nth,h]
 refine⟨xs.map Int.toNat,⟨?_,?_⟩,?_⟩
 ·refine List.pairwise_iff_getElem.2 fun i j hi hj hij e=>?_
  simp only[List.length_map] at hi hj
  simp only[List.getElem_map] at e
  have a:=h1 i hi
  have b:=h1 j hj
  have c:=h2 i j hij hj
  rw[hg i hi] at a c
  rw[hg j hj] at b c
  omega
 ·intro x hx
  obtain⟨y,hy,rfl⟩:=List.mem_map.1 hx
  obtain⟨i,hi,rfl⟩:=List.mem_iff_getElem.1 hy
  have a:=h1 i hi
  rw[hg i hi] at a
  simp only[List.length_map]
  omega
 ·unfold toI
  rw[List.map_map]
  refine (List.ext_getElem (by simp) fun i h _=>?_)
  have a:=h1 i h
  rw[hg i h] at a
  simp
  omega
theorem Ev.newPerm {R R1:Reg} {w w1:World} {B:Nat} {E T:TypeId} {v:Value} {S:List Nat} (he:Ev R w R1 w1) (hB:w.heap.size≤B) (ho:OwnI R1 B E w1 v (toI S)) (hS:IsPerm S) (hn:S.length≤4194304):
  ∃ R2,Ev R w R2 (w1.alloc (.cells #[v,.int .u32 0,.int .i32 0,.int .u32 0,.slice none 0 0] T))∧PermAt R2 (.pointer (some ⟨w1.heap.size,0,none⟩)) S:=by
 obtain⟨R2,he2,hf,hk,hn2⟩:=ho.fix he hB
 have he3:=he2.alloc (.cells #[v,.int .u32 0,.int .i32 0,.int .u32 0,.slice none 0 0] T)
 have hnone:R2 w1.heap.size=none:=he2.inv.none_of_ge (Nat.le_refl _)
 refine⟨R2.put w1.heap.size (.inr (.inl S)),he3.put _ he.size hnone ⟨hS,hn,v,T,0,nilS,?_,hf,Or.inl ⟨rfl,rfl⟩⟩,w1.heap.size,rfl,Reg.put_same _ _ _⟩
 exact heap_alloc_new w1 _
def OfPost (R:Reg) (w:World) (xs:List Int) (e:Ending) (w':World):Prop:=
 (¬ PermI xs∧e=.returned (.tuple #[.pointer none,.int .i64 4])∧Ev R w R w') ∨
 ∃ S p R',IsPerm S∧xs=toI S∧e=.returned (.tuple #[p,.int .i64 0])∧Ev R w R' w'∧PermAt R' p S
theorem bool_info:(Tryz.prog.info? 4).map (fun i=>(i.zero,i.size,i.bytes))=some (some (.bool false),1,1):=by kernel_rfl
def seenL (xs:List Int) (n k:Nat):List Bool:=(List.range n).map fun (j:Nat)=>decide (∃ i,i<k∧nth xs i=(j:Int))
theorem seenL_zero (xs:List Int) (n:Nat):(seenL xs n 0).map Value.bool=List.replicate n (.bool false):=by
 unfold seenL
 rw[List.map_map]
 refine List.ext_getElem (by simp) fun i h1 h2=>?_
 simp
theorem seenL_length (xs:List Int) (n k:Nat):(seenL xs n k).length=n:=by simp[seenL]
theorem seenL_get {xs:List Int} {n k j:Nat} (h:j<n):(seenL xs n k)[j]?=some (decide (∃ i,i<k∧nth xs i=(j:Int))):=by
 simp[seenL,h]
theorem seenL_set {xs:List Int} {n k:Nat} (h:0≤nth xs k) (h':nth xs k<n):(seenL xs n k).set (nth xs k).toNat true=seenL xs n (k+1):=by
 refine List.ext_getElem (by simp[seenL_length]) fun j h1 h2=>?_
 rw[List.length_set,seenL_length] at h1
 simp only[seenL,List.getElem_set,List.getElem_map,List.getElem_range]
 split
 ·rename_i e
  symm
  simp only[decide_eq_true_eq]
  exact⟨k,by omega,by omega⟩
 ·rename_i e
  congr 1
  apply propext
  constructor
  ·rintro⟨i,hi,hx⟩;exact⟨i,by omega,hx⟩
  ·rintro⟨i,hi,hx⟩
   refine⟨i,?_,hx⟩
   rcases Nat.lt_or_ge i k with h3|h3
   ·exact h3
   ·obtain rfl:i=k:=by omega
    omega
set_option maxRecDepth 100000 in
set_option maxHeartbeats 1000000 in
theorem of_any (R:Reg) (w:World) (hI:Inv R w) (v:Value) (xs:List Int) (hv:Ints w v xs) (hn:xs.length≤4194304):
  Calls Tryz.prog 72 #[v] w (OfPost R w xs):=by
 obtain⟨a,cap,rfl,hv⟩:=hv.open
 obtain⟨n,hl⟩:∃ n,xs.length=n:=⟨_,rfl⟩
 have HL:=Lib.hid hl
 rw[hl] at hv hn ⊢
 have HV:=Lib.hid hv
 have HI:=Lib.hid hI
 obtain⟨i0,hi,hz0,hz1,hz2⟩:=info_parts bool_info
 clear hv hI hl
 go_enter Tryz.func72,Tryz.ntmps72
 go_wp2_with (refine wpList_make_full _ rfl _ _ 102 rfl w.heap.size 4 i0 (.bool false) 1 Tryz.underlying102 hi hz0 hz1 .i64 .i64 (n:Int) (n:Int) n rfl rfl rfl rfl ?q1 ?q2 (Nat.le_refl _) ?_)
 case q1=>rw[hz2];omega
 case q2=>unfold maxLen;omega
 intro w1 ho1 hg1
 have hcur:w1.heap[w.heap.size]?=some (.cells ((seenL xs n 0).map Value.bool).toArray 4 (0,0)):=by
  obtain⟨h1,h2⟩:=ho1
  rcases h2 with ⟨h2,_⟩|⟨g,cap',cur,hv,hg,hh,hn',hm,hs,ht⟩
  ·cases h2
  ·cases hv
   rw[hh,seenL_zero]
   have:cur.toList=List.replicate n (.bool false):=by
    have hs':cur.toList.length=n:=by simpa using hs
    rw[List.take_of_length_le (by omega)] at ht
    rw[ht]
    simpa using toList_madeCells_one (.bool false) n
   rw[←this]
 have hb1:Below w.heap.size w w1:=(Below.refl _ w).grown hg1 (Nat.le_refl _) (by simp)
 have HCUR:=Lib.hid hcur
 have HB1:=Lib.hid hb1
 clear ho1 hg1 hcur hb1
 go_wp2_with fail
 go_loopg [12] n (fun g v12 wr=>∃ k:Nat,k≤n∧n-k≤g∧v12=.int .i64 (k:Int)∧wr.heap[w.heap.size]?=some (.cells ((seenL xs n k).map Value.bool).toArray 4 (0,0))∧Below w.heap.size w wr ∧
  (∀ j,j<k→0≤nth xs j∧nth xs j<n)∧∀ i j,i<j→j<k→nth xs i≠nth xs j)
 case atStart=>exact⟨0,Nat.zero_le _,by omega,rfl,HCUR.out,HB1.out,fun j hj=>by omega,fun i j _ hj=>by omega⟩
 case round=>
  obtain⟨k,hk,hg,rfl,hcu,hbe,hg1,hg2⟩:=hrel
  have HCU:=Lib.hid hcu
  have HBE:=Lib.hid hbe
  have HG1:=Lib.hid hg1
  have HG2:=Lib.hid hg2
  clear hcu hbe hg1 hg2
  by_cases hkn:k<n
  ·obtain⟨b,off,rfl,hc⟩:=HV.out.cell (i:=k) (by rw[HL.out];exact hkn)
   have hc':wr.cell? ⟨b,off+k,none⟩=some (.int .i64 (nth xs k)):=(HBE.out.cell (p:=⟨b,off+k,none⟩) (lt_of_cell hc)).trans hc
   obtain⟨x,hx⟩:∃ x,nth xs k=x:=⟨_,rfl⟩
   rw[hx] at hc'
   have HX:=Lib.hid hx
   clear hc hx
   by_cases hx0:x<0
   ·go_wp2_with fail
    go_ret2
    refine Or.inl ⟨fun hp=>?_,rfl,Ev.of_below HI.out HBE.out⟩
    have:=(hp.good.1 k (by rw[HL.out];exact hkn)).1
    have:=HX.out
    omega
   ·by_cases hxn:(n:Int)≤x
    ·go_wp2_with fail
     go_ret2
     refine Or.inl ⟨fun hp=>?_,rfl,Ev.of_below HI.out HBE.out⟩
     have:=(hp.good.1 k (by rw[HL.out];exact hkn)).2
     have:=HX.out
     have:=HL.out
     omega
    ·have hx1:x<n:=by omega
     have hseen:wr.cell? ⟨w.heap.size,x.toNat,none⟩=some (.bool (decide (∃ i,i<k∧nth xs i=x))):=by
      unfold World.cell?
      rw[HCU.out]
      simp only[Option.isSome_none,Bool.false_eq_true,if_false,List.getElem?_toArray,List.getElem?_map]
      rw[seenL_get (by omega)]
      simp only[Option.map_some,Option.some.injEq,Value.bool.injEq]
      rw[Int.toNat_of_nonneg (by omega)]
     have hfz:wr.frozen? ⟨w.heap.size,x.toNat,none⟩=false:=by simp[World.frozen?,HCU.out]
     by_cases hdup:∃ i,i<k∧nth xs i=x
     ·rw[decide_eq_true hdup] at hseen
      have HD:=Lib.hid hdup
      clear hdup
      go_wp2_with fail
      go_ret2
      refine Or.inl ⟨fun hp=>?_,rfl,Ev.of_below HI.out HBE.out⟩
      obtain⟨i,hi1,hi2⟩:=HD.out
      exact hp.good.2 i k hi1 (by rw[HL.out];exact hkn) (by rw[hi2,HX.out])
     ·rw[decide_eq_false hdup] at hseen
      have HD:=Lib.hid hdup
      clear hdup
      go_wp2_with fail
      have hcur':(wr.setCell ⟨w.heap.size,x.toNat,none⟩ (.bool true)).heap[w.heap.size]?=some (.cells ((seenL xs n (k+1)).map Value.bool).toArray 4 (0,0)):=by
       rw[heap_setCell_same _ _ _ _ _ _ HCU.out,←seenL_set (n:=n) (by rw[HX.out];omega) (by rw[HX.out];omega),HX.out]
       simp
      have HC2:=Lib.hid hcur'
      clear hcur' hseen hfz
      go_roundg (n-(k+1))
      case measure=>omega
      case rel=>
       refine⟨k+1,by omega,by omega,by go_num,HC2.out,HBE.out.setCell (Nat.le_refl _) _,fun j hj=>?_,fun i j hij hj e=>?_⟩
       ·by_cases e:j=k
        ·subst e;rw[HX.out];omega
        ·exact HG1.out j (by omega)
       ·by_cases e':j=k
        ·subst e'
         exact HD.out ⟨i,hij,by rw[e,HX.out]⟩
        ·exact HG2.out i j hij (by omega) e
  ·obtain rfl:k=n:=by omega
   go_wp2_with fail
   obtain⟨S,hS,rfl⟩:=PermI.of_good (xs:=xs) (fun j hj=>by rw[HL.out] at hj ⊢;exact HG1.out j hj) (fun i j hij hj=>HG2.out i j hij (by rw[HL.out] at hj;exact hj))
   have he:=Ev.of_below HI.out HBE.out
   have hv':Ints wr (.slice a k cap) (toI S):=by
    obtain⟨a',cap',e1,e2,e3,e4⟩:=HV.out
    refine⟨a',cap',e1,e2,e3,fun i hi=>?_⟩
    obtain⟨b,off,e5,e6⟩:=e4 i hi
    exact⟨b,off,e5,(HBE.out.cell (p:=⟨b,off+i,none⟩) (lt_of_cell e6)).trans e6⟩
   refine (clone_any R wr he.inv _ (toI S) hv' (by rw[HL.out];exact hn)).mono ?_
   rintro e w2 ⟨v2,rfl,he2,ho2⟩
   obtain⟨a2,c2,rfl,_⟩:=ho2.ints.open
   have hsz:=he.size
   obtain⟨R3,he3,hp3⟩:=(he.trans he2).newPerm (T:=116) hsz ho2 hS (by have:=HL.out;rw[toI_length] at this;omega)
   have HE3:=Lib.hid he3
   have HP3:=Lib.hid hp3
   clear he2 ho2 he3 hp3 hv' he
   go_wp2_with fail
   go_ret2
   exact Or.inr ⟨S,_,R3,hS,rfl,rfl,HE3.out,HP3.out⟩
end
section
set_option linter.unusedVariables false
end
end Go.Proofs.YtgphnkkdmlohlaaGreatDoor
