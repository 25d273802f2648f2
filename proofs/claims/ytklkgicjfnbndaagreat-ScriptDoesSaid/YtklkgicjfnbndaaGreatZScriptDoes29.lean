/- parquetryref10.made: lists of darts, laid into a map. -/
import Derived.Test.YtklkgicjfnbndaaGreatZScriptDoes28
import Derived.Test.YtklkgicjfnbndaaGreatZScriptDoes27
import Derived.Test.YtklkgicjfnbndaaGreatZScriptDoes26
namespace Go.Proofs.YtklkgicjfnbndaaGreat
section
open Go.RowKit
set_option linter.unusedVariables false
theorem build_map2 (a:Option Addr) (n c:Nat) (l:Int) (W:World):(Instr.build 27 #[(0,.slice a n c),(2,.int .i64 l)]).run Tryz.prog W=.ok (.agg #[.slice a n c,.int .i64 0,.int .i64 l]) W:=by
 first|kernel_rfl|rfl
structure OutAt (R:Reg) (w0 w:World) (bo gS m:Nat) (T:List Nat) (r l:Int):Prop where
 ev:Ev R w0 R w
 nb:R bo=none
 blk:w.heap[bo]?=some (.cells #[.slice (some ⟨gS,0,none⟩) m m,.int .i64 r,.int .i64 l] 27 (0,0))
 own:OwnI R w0.heap.size 3 w (.slice (some ⟨gS,0,none⟩) m m) (toI T)
 lt:w0.heap.size≤bo
 ne:gS≠bo
 len:T.length=m
theorem OutAt.putS {R:Reg} {w0 w:World} {bo gS m:Nat} {T:List Nat} {r l:Int} (h:OutAt R w0 w bo gS m T r l) {i:Nat} (hi:i<m) (y:Nat):OutAt R w0 (w.setCell ⟨gS,i,none⟩ (.int .i64 ((y:Nat):Int))) bo gS m (T.set i y) r l where
 ev:=h.ev.setCell (h.own.lt gS rfl).1 (h.own.2 gS rfl) _
 nb:=h.nb
 blk:=by
  rw[Below.heap_setCell _ _ _ _ (by first|exact h.ne|exact h.ne.symm)]
  exact h.blk
 own:=by
  have e1:toI (T.set i y)=(toI T).set i ((y:Nat):Int):=by simp[toI,List.map_set]
  rw[e1]
  exact h.own.put (by rw[toI_length];exact h.len) i hi _
 lt:=h.lt
 ne:=h.ne
 len:=by rw[List.length_set];exact h.len
theorem OutAt.evs {R:Reg} {w0 w w':World} {bo gS m:Nat} {T:List Nat} {r l:Int} (h:OutAt R w0 w bo gS m T r l) (he:Ev R w R w'):OutAt R w0 w' bo gS m T r l:=
 ⟨h.ev.trans he,h.nb,(he.block _ (lt_of_block h.blk) h.nb).trans h.blk,h.own.ev he,h.lt,h.ne,h.len⟩
theorem OutAt.putR {R:Reg} {w0 w:World} {bo gS m:Nat} {T:List Nat} {r l:Int} (h:OutAt R w0 w bo gS m T r l) (y:Int):OutAt R w0 (w.setCell ⟨bo,1,none⟩ (.int .i64 y)) bo gS m T y l:=by
 have hnb:(Value.slice (some ⟨gS,0,none⟩) m m).ownBlock≠some (⟨bo,1,none⟩:Addr).block:=fun e=>h.ne (by simpa [Value.ownBlock] using e)
 exact⟨h.ev.setCell (p:=⟨bo,1,none⟩) h.lt h.nb _,h.nb,heap_setCell_same _ _ 1 _ _ _ h.blk,h.own.setCell hnb _,h.lt,h.ne,h.len⟩
theorem OutAt.putL {R:Reg} {w0 w:World} {bo gS m:Nat} {T:List Nat} {r l:Int} (h:OutAt R w0 w bo gS m T r l) (y:Int):OutAt R w0 (w.setCell ⟨bo,2,none⟩ (.int .i64 y)) bo gS m T r y:=by
 have hnb:(Value.slice (some ⟨gS,0,none⟩) m m).ownBlock≠some (⟨bo,2,none⟩:Addr).block:=fun e=>h.ne (by simpa [Value.ownBlock] using e)
 exact⟨h.ev.setCell (p:=⟨bo,2,none⟩) h.lt h.nb _,h.nb,heap_setCell_same _ _ 2 _ _ _ h.blk,h.own.setCell hnb _,h.lt,h.ne,h.len⟩
theorem OutAt.cells {R:Reg} {w0 w:World} {bo gS m:Nat} {T:List Nat} {r l:Int} (h:OutAt R w0 w bo gS m T r l):
  w.cell? ⟨bo,0,none⟩=some (.slice (some ⟨gS,0,none⟩) m m)∧w.cell? ⟨bo,1,none⟩=some (.int .i64 r)∧w.cell? ⟨bo,2,none⟩=some (.int .i64 l)∧∀ o,w.frozen? ⟨bo,o,none⟩=false:=box_cells h.blk
theorem OutAt.drew {R:Reg} {w0 w:World} {bo gS m:Nat} {T:List Nat} {r l:Int} (h:OutAt R w0 w bo gS m T r l):OutAt R w0 w.drew bo gS m T r l:=⟨h.ev.drew,h.nb,h.blk,h.own.drew,h.lt,h.ne,h.len⟩
theorem rootIn_cons (e x:Nat) (l:List Nat):rootIn e (x :: l)=if x / 2=e then rootIn e l else nmL e x:=by
 unfold rootIn
 by_cases h:x / 2=e
 ·rw[if_pos h,List.find?_cons_of_neg (by simp[h])]
 ·rw[if_neg h,List.find?_cons_of_pos (by simp[h])]
theorem toI_reps (m:Nat):toI (List.replicate m 0)=List.replicate m 0:=by simp[toI]
theorem out_first {R:Reg} {wb:World} {m:Nat} {l:Int} (hI:Inv R wb) (hm:m≤maxLen):
  OutAt R wb ((wb.alloc (.cells (madeCells #[.int .i64 0] m) 3)).alloc (.cells #[.slice (some ⟨wb.heap.size,0,none⟩) m m,.int .i64 0,.int .i64 l] 27)).drew (wb.heap.size+1) wb.heap.size m (List.replicate m 0) 0 l:=by
 have h:=rowI_made (B:=wb.heap.size) (n:=m) hI (Nat.le_refl _) hm
 rw[Nat.mul_one] at h
 refine⟨(((Ev.refl hI).alloc _).alloc _).drew,hI.none_of_ge (by omega),?_,?_,by omega,by omega,by simp⟩
 ·have e1:=heap_alloc_new (wb.alloc (.cells (madeCells #[.int .i64 0] m) 3)) (.cells #[.slice (some ⟨wb.heap.size,0,none⟩) m m,.int .i64 0,.int .i64 l] 27)
  have e2:(wb.alloc (.cells (madeCells #[.int .i64 0] m) 3)).heap.size=wb.heap.size+1:=by simp
  rw[e2] at e1
  exact e1
 ·rw[toI_reps]
  exact (h.alloc _).drew
theorem out_second {R:Reg} {wb:World} {m:Nat} {l:Int} (hI:Inv R wb) (hm:m≤maxLen):
  OutAt R wb ((wb.alloc (.cells #[.slice (some ⟨wb.heap.size+1,0,none⟩) m m,.int .i64 0,.int .i64 l] 27)).alloc (.cells (madeCells #[.int .i64 0] m) 3)).drew wb.heap.size (wb.heap.size+1) m (List.replicate m 0) 0 l:=by
 have hev:=(Ev.refl hI).alloc (.cells #[.slice (some ⟨wb.heap.size+1,0,none⟩) m m,.int .i64 0,.int .i64 l] 27)
 have h:=rowI_made (B:=wb.heap.size) (n:=m) hev.inv (by simp) hm
 rw[Nat.mul_one] at h
 refine⟨(hev.alloc _).drew,hI.none_of_ge (Nat.le_refl _),?_,?_,Nat.le_refl _,by omega,by simp⟩
 ·show ((wb.alloc _).alloc _).heap[wb.heap.size]?=_
  rw[Below.heap_alloc _ _ _ (by simp)]
  exact heap_alloc_new wb _
 ·rw[toI_reps]
  simpa using h.drew
def layTo (e:Nat) (v S:List Nat) (i:Nat):List Nat:=(List.range i).foldl (fun S i=>S.set (nmL e (v.getD i 0)) (nmL e (v.getD (nextI v.length i) 0))) S
theorem layTo_all (e:Nat) (v S:List Nat):layTo e v S v.length=layV e v S:=rfl
theorem layTo_succ (e:Nat) (v S:List Nat) (i:Nat):layTo e v S (i+1)=(layTo e v S i).set (nmL e (at' v i)) (nmL e (at' v (nextI v.length i))):=by
 unfold layTo
 rw[List.range_succ,List.foldl_append]
 rfl
theorem layAll_take {e:Nat} {xss:List (List Nat)} {S:List Nat} {k:Nat} (hk:k<xss.length):layAll e (xss.take (k+1)) S=layV e (xss.getD k []) (layAll e (xss.take k) S):=by
 unfold layAll
 rw[foldl_take_succ _ _ _ _ hk]
 simp[List.getD,hk]
theorem emptyN_take {xss:List (List Nat)} {k:Nat} (hk:k<xss.length):emptyN (xss.take (k+1))=emptyN (xss.take k)+if (xss.getD k []).length=0 then 1 else 0:=by
 unfold emptyN
 rw[List.take_add_one,List.map_append,List.sum_append]
 simp[List.getD,hk]
theorem emptyN_le:∀ (xss:List (List Nat)),0≤emptyN xss∧emptyN xss≤xss.length
 | []=>by simp[emptyN]
 | v :: xss=>by
  have h:=emptyN_le xss
  unfold emptyN at h ⊢
  rw[List.map_cons,List.sum_cons,List.length_cons]
  split <;> omega
set_option maxRecDepth 100000 in
set_option maxHeartbeats 2000000 in
theorem r10made_any (R:Reg) (w:World) (hI:Inv R w) (v:Value) (s:List Nat) (root lone:Int) (hv:FreeI R w v (toI s)) (hS:IsPerm s) (hn:s.length≤1000000) (h2:2≤s.length) (e:Nat) (he:2*e+2≤s.length) (hr:0≤root∧root<s.length) (hl:0≤lone∧lone≤65536)
  (B:Nat) (a:Option Addr) (c:Nat) (vs:List Value) (xss:List (List Nat)) (hO:OwnV R B 25 1 w (.slice a xss.length c) xss.length vs) (hW:RowsLL R w (fun k=>(Value.slice a xss.length c).ownBlock=some k) vs xss) (hx:∀ v,v∈xss→∀ x,x∈v→x<s.length∧¬ x / 2=e) (hN:xss.length≤1000000) (hrl:∀ v,v∈xss→v.length≤1000000):
  Calls Tryz.prog 125 #[refV v root lone,.slice a xss.length c,.int .i64 (e:Int)] w (RetMap R w (layAll e xss (List.replicate (s.length-2) 0)) (rootL s e root.toNat) (lone+emptyN xss)):=by
 obtain⟨r0,rfl⟩:∃ r0:Nat,root=(r0:Int):=⟨root.toNat,by omega⟩
 rw[Int.toNat_natCast]
 obtain⟨a0,cap0,rfl,hv0⟩:=hv.open
 rw[toI_length] at hv hv0 ⊢
 obtain⟨n,hnn⟩:∃ n,s.length=n:=⟨_,rfl⟩
 obtain⟨m,hm⟩:∃ m,n-2=m:=⟨_,rfl⟩
 rw[hnn] at hn h2 he hr hx ⊢
 have HNn:=Lib.hid hnn
 have HMm:=Lib.hid hm
 have HOv:=Lib.hid (fun R' w' (hee:Ev R w R' w')=>hO.ev hee)
 have HRw:=Lib.hid (fun R' w' (hee:Ev R w R' w')=>hW.ev hee)
 have HX:=Lib.hid hx
 have HRl:=Lib.hid hrl
 have HVl:=Lib.hid hW.len
 have HInv:=Lib.hid (fun w' (hee:Ev R w R w')=>rinverse_any R w' hee.inv _ s (hv.ev hee) hS (by omega))
 have HOrb:=Lib.hid (fun w' (hee:Ev R w R w') u (hu:FreeI R w' u (toI (invL s)))=>rorbit_any R w' hee.inv u (invL s) hu (invL_perm hS) (by rw[invL_length];omega) r0 (by rw[invL_length];omega))
 have HEm:=Lib.hid (fun xs=>emptyN_le xs)
 rw[hnn] at HInv
 have HS:=Lib.hid hS
 obtain⟨N,hNN⟩:∃ N,xss.length=N:=⟨_,rfl⟩
 rw[hNN] at hN HOv HRw HVl ⊢
 have HNN:=Lib.hid hNN
 have hw2:IntKind.i64.wrap ((n:Int)-2)=(m:Int):=by rw[show (n:Int)-2=(m:Int) by omega];exact IntWalk.i64_in _ (by omega)
 obtain⟨i0,hi,hz0,hz1,hz2⟩:=info_parts int_info
 have hms1:=make_eq (n:=m) Tryz.underlying25 hi hz0 hz1 (by rw[hz2];omega) (by unfold maxLen;omega)
 have hbd:=build_map2
 have HI:=Lib.hid hI
 have HT0:=Lib.hid (show List.replicate (n-2) 0=List.replicate m (0:Nat) by rw[hm])
 obtain⟨z,hz⟩:∃ z,i0.zero=z:=⟨_,rfl⟩
 unfold refV
 have he1:Ev R w R ((w.alloc (.cells #[.slice a0 n cap0,.int .i64 (r0:Int),.int .i64 lone] 27)).alloc (.cells #[.slice none 0 0,.int .i64 0,.int .i64 0] 27)):=((Ev.refl hI).alloc _).alloc _
 have hb1:((w.alloc (.cells #[.slice a0 n cap0,.int .i64 (r0:Int),.int .i64 lone] 27)).alloc (.cells #[.slice none 0 0,.int .i64 0,.int .i64 0] 27)).heap[w.heap.size]?=some (.cells #[.slice a0 n cap0,.int .i64 (r0:Int),.int .i64 lone] 27 (0,0)):=by
  rw[Below.heap_alloc _ _ _ (by simp)]
  exact heap_alloc_new w _
 have hb2:((w.alloc (.cells #[.slice a0 n cap0,.int .i64 (r0:Int),.int .i64 lone] 27)).alloc (.cells #[.slice none 0 0,.int .i64 0,.int .i64 0] 27)).heap[w.heap.size+1]?=some (.cells #[.slice none 0 0,.int .i64 0,.int .i64 0] 27 (0,0)):=by
  have:=heap_alloc_new (w.alloc (.cells #[.slice a0 n cap0,.int .i64 (r0:Int),.int .i64 lone] 27)) (.cells #[.slice none 0 0,.int .i64 0,.int .i64 0] 27)
  simpa using this
 have hn1:R w.heap.size=none:=hI.none_of_ge (Nat.le_refl _)
 have hn2:R (w.heap.size+1)=none:=hI.none_of_ge (by omega)
 go_enter Tryz.func125,Tryz.ntmps125
 go_upto_region 1 with fail
 obtain⟨wb,hwb⟩:∃ wb,wb=(w.alloc (.cells #[.slice a0 n cap0,.int .i64 (r0:Int),.int .i64 lone] 27)).alloc (.cells #[.slice none 0 0,.int .i64 0,.int .i64 0] 27):=⟨_,rfl⟩
 have hwz:wb.heap.size=w.heap.size+1+1:=by rw[hwb];simp
 rw[←hwb] at he1 hb1 hb2 ⊢
 have HB1:=Lib.hid (fun w' (h:Ev R wb R w')=>h.box3 hb1 hn1)
 have HB2:=Lib.hid (fun w' (h:Ev R wb R w')=>h.box3 hb2 hn2)
 have HEb:=Lib.hid he1
 obtain⟨x0,x1,x2,_⟩:=box_cells hb1
 have HZb:=Lib.hid hwz
 have HMl:=Lib.hid (show m≤maxLen by unfold maxLen;omega)
 have hlt0:w.heap.size<wb.heap.size:=by omega
 clear hwb hb1 hb2 hn1 hn2 hI hv hv0 hS he1 hnn hm hO hW hx hrl hNN hwz
 go_cut [7] (fun s7 wx=>∃ bo gS,s7=.pointer (some ⟨bo,0,none⟩)∧OutAt R wb wx bo gS m (List.replicate m 0) 0 lone)
 case first=>
  go_region
  all_goals (go_wp2_with fail;go_meet)
  all_goals first
   | exact⟨_,_,rfl,out_first HEb.out.inv HMl.out⟩
   | exact⟨_,_,rfl,out_second HEb.out.inv HMl.out⟩
 case rest=>
  obtain⟨bo,gS,rfl,hout⟩:=hcut
  obtain⟨w4,hw4⟩:∃ w4,w4=wc:=⟨_,rfl⟩
  subst hw4
  have HOut:=Lib.hid hout
  have HE4:=Lib.hid (HEb.out.trans hout.ev)
  have HGs:=Lib.hid (hout.own.lt gS rfl)
  obtain⟨T0,hT0⟩:∃ T0,List.replicate m (0:Nat)=T0:=⟨_,rfl⟩
  rw[hT0] at HOut
  have HT1:=Lib.hid (HT0.out.trans hT0)
  clear hout hms1 hbd hi hz0 hz1 hz2 hz hT0 x0 x1 x2 hw2
  go_wp2_with fail
  go_loopg [25] N (fun g v25 wr=>∃ k:Nat,k≤N∧N-k≤g∧v25=.int .i64 (k:Int)∧OutAt R wb wr bo gS m (layAll e (xss.take k) T0) 0 (lone+emptyN (xss.take k)))
  case atStart=>exact⟨0,Nat.zero_le _,by omega,rfl,by
   have h:=HOut.out
   simpa [layAll,emptyN] using h⟩
  case round=>
   obtain⟨k,hk,hg,rfl,hout⟩:=hrel
   have HO:=Lib.hid hout
   clear hout
   by_cases hkN:k<N
   ·have hkx:k<xss.length:=by rw[HNN.out];exact hkN
    have hEw:=HEb.out.trans HO.out.ev
    obtain⟨u,hu1,aX,cX,hu2,huf,huo⟩:=(HRw.out _ _ hEw).row k hkx
    subst hu2
    obtain⟨gl,rfl,_,_,hcl,_⟩:=(HOv.out _ _ hEw).headAt (i:=k) (by rw[HVl.out];exact hkN)
    rw[hu1] at hcl
    have hXm:xss.getD k []∈xss:=by rw[show xss.getD k []=xss[k] by simp[List.getD,hkx]];exact List.getElem_mem hkx
    have hX:=HX.out _ hXm
    have hXl:=HRl.out _ hXm
    have hlt:=layAll_take (e:=e) (S:=T0) hkx
    have het:=emptyN_take hkx
    have hEml:=HEm.out (xss.take k)
    rw[List.length_take] at hEml
    obtain⟨X,hXX⟩:∃ X,xss.getD k []=X:=⟨_,rfl⟩
    rw[hXX] at huf huo hcl hX hXl hlt het
    obtain⟨L,hL⟩:∃ L,X.length=L:=⟨_,rfl⟩
    rw[hL] at huf huo hcl hXl het
    have HLl:=Lib.hid hL
    have HXs:=Lib.hid (show ∀ x,x∈X→x<n∧¬ x / 2=e from hX)
    obtain⟨TT,hTT⟩:∃ T,layAll e (xss.take k) T0=T:=⟨_,rfl⟩
    obtain⟨ll,hll⟩:∃ l,lone+emptyN (xss.take k)=l:=⟨_,rfl⟩
    have hllb:0≤ll∧ll≤2000000:=by
     have h1:((min k xss.length:Nat):Int)≤1000000:=by rw[HNN.out];omega
     omega
    rw[hTT,hll] at HO
    rw[hTT] at hlt
    have HLt:=Lib.hid hlt
    have HEt:=Lib.hid (show lone+emptyN (xss.take (k+1))=ll+if L=0 then 1 else 0 by rw[het,←hll];omega)
    have HUf:=Lib.hid (show ∀ w',Ev R w R w'→FreeI R w' (.slice aX L cX) (toI X) from fun w' hee=>by
     obtain⟨u',h1',a',c',e',hf',_⟩:=(HRw.out _ _ hee).row k hkx
     rw[hXX] at e' hf'
     rw[hL] at e' hf'
     rw[hu1,e'] at h1'
     cases h1'
     exact hf')
    have HEw:=Lib.hid hEw
    clear hTT hll hX hXX hL hlt het hEml hXm hu1 hEw huo hkx
    by_cases hL0:L=0
    ·subst hL0
     obtain⟨c0,c1,c2,cz⟩:=HO.out.cells
     have hwl:IntKind.i64.wrap (ll+1)=ll+1:=IntWalk.i64_in _ (by omega)
     have HOl:=Lib.hid (HO.out.putL (ll+1))
     have HEt1:=Lib.hid (show lone+emptyN (xss.take (k+1))=ll+1 by rw[HEt.out];simp)
     have HLt1:Hid (layAll e (xss.take (k+1)) T0=TT):=Lib.hid (by
      rw[HLt.out]
      unfold layV
      rw[HLl.out]
      rfl)
     clear huf
     go_wp2_with fail
     go_loopg [38] 0 (fun g v38 wq=>v38=.int .i64 0∧OutAt R wb wq bo gS m TT 0 (ll+1))
     case atStart=>exact⟨rfl,HOl.out⟩
     case round=>
      obtain⟨rfl,ho⟩:=hrel
      have HOz:=Lib.hid ho
      clear ho c0 c1 c2 cz hcl
      go_wp2_with fail
      go_roundg (N-(k+1))
      case measure=>omega
      case rel=>exact⟨k+1,by omega,by omega,by go_num,by rw[HLt1.out,HEt1.out];exact HOz.out⟩
    ·have HEt1:=Lib.hid (show lone+emptyN (xss.take (k+1))=ll by rw[HEt.out,if_neg hL0];omega)
     have HLn:=Lib.hid hL0
     obtain⟨aY,oY,rfl,hY0⟩:=huf.1.cell (i:=0) (by rw[toI_length,HLl.out];omega)
     have hbL:((L:Int) == 0)=false:=by simp;omega
     clear huf
     go_wp2_with fail
     obtain⟨w6,hw6⟩:∃ w6,w6=wr:=⟨_,rfl⟩
     subst hw6
     clear hY0 hcl
     go_loopg [38] L (fun g v38 wq=>∃ i:Nat,i≤L∧L-i≤g∧v38=.int .i64 (i:Int)∧OutAt R wb wq bo gS m (layTo e X TT i) 0 ll)
     case atStart=>exact⟨0,Nat.zero_le _,by omega,rfl,HO.out⟩
     case round=>
      obtain⟨i,hi,hg2,rfl,ho⟩:=hrel
      have HOi:=Lib.hid ho
      clear ho
      by_cases hiL:i<L
      ·have hsu:=layTo_succ e X TT i
       have hf:=HUf.out _ (HEb.out.trans HOi.out.ev)
       have hcells:∀ j,j<L→wr.cell? ⟨aY,oY+j,none⟩=some (.int .i64 ((at' X j:Nat):Int))∧at' X j<n∧¬ at' X j / 2=e:=fun j hj=>by
        obtain⟨b',o',e1,hc⟩:=hf.1.cell (i:=j) (by rw[toI_length,HLl.out];exact hj)
        cases e1
        rw[toI_nth] at hc
        have hjX:j<X.length:=by rw[HLl.out];exact hj
        exact⟨hc,HXs.out _ (by rw[at'_eq hjX];exact List.getElem_mem hjX)⟩
       have hc0:=(hcells 0 (by omega)).1
       obtain⟨hci,hdn,hde⟩:=hcells i hiL
       have HCe:=Lib.hid hcells
       obtain⟨i2,hi2⟩:∃ j,i+1=j:=⟨_,rfl⟩
       have hwi:IntKind.i64.wrap ((i:Int)+1)=(i2:Int):=by rw[show (i:Int)+1=(i2:Int) by omega];exact IntWalk.i64_in _ (by omega)
       obtain⟨d,hd⟩:∃ d,at' X i=d:=⟨_,rfl⟩
       rw[hd] at hci hdn hde hsu
       obtain⟨d0,hd0⟩:∃ d,at' X 0=d:=⟨_,rfl⟩
       rw[hd0] at hc0
       simp only[Nat.add_zero] at hc0
       rw[HLl.out] at hsu
       clear hf hcells hd
       by_cases hlast:i2<L
       ·have hnx:nextI L i=i2:=by unfold nextI;rw[if_pos (by omega),hi2]
        obtain⟨hcx,hxn,hxe⟩:=HCe.out i2 hlast
        rw[hnx] at hsu
        obtain⟨d2,hd2⟩:∃ d,at' X i2=d:=⟨_,rfl⟩
        rw[hd2] at hcx hxn hxe hsu
        clear hd2 hnx hd0
        obtain⟨q,hq⟩:∃ q,nmL e d=q:=⟨_,rfl⟩
        obtain⟨y,hy⟩:∃ y,nmL e d2=y:=⟨_,rfl⟩
        have hqm:q<m:=by
         have h1:=nmL_lt (n:=n) (by omega) hde hdn
         rw[hq,HMm.out] at h1
         exact h1
        have HN1:=Lib.hid (r10name_any wr.drew d e (by omega) (by omega) hde)
        have HN2:=Lib.hid (r10name_any wr.drew d2 e (by omega) (by omega) hxe)
        rw[hq] at HN1 hsu
        rw[hy] at HN2 hsu
        have HSu:=Lib.hid hsu
        have HPut:=Lib.hid (HOi.out.putS hqm y)
        obtain⟨c0,c1,c2,cz⟩:=HOi.out.cells
        obtain⟨_,e6,hB6,hR6,hc6,hz6⟩:=HOi.out.own.headAt (by rw[toI_length];exact HOi.out.len) hqm
        cases e6
        clear hq hy hsu c1 c2 cz
        go_wp2_with fail
        go_still_tail 9,(by kernel_rfl)
        still_call (Calls.drewS HN1.out)
        repeat still_step
        still_call (Calls.drewS HN2.out)
        repeat still_step
        refine wpStill_nil ?_
        change wpList _ _ _ _ _ wr.drew
        obtain⟨w7,hw7⟩:∃ w7,w7=wr.drew:=⟨_,rfl⟩
        have hz7:w7.frozen? ⟨gS,q,none⟩=false:=by rw[hw7];exact hz6
        have hc7:w7.cell? ⟨gS,q,none⟩=some (.int .i64 (nth (toI (layTo e X TT i)) q)):=by rw[hw7];exact hc6
        have HO7:Hid (OutAt R wb (w7.setCell ⟨gS,q,none⟩ (.int .i64 ((y:Nat):Int))) bo gS m (layTo e X TT (i+1)) 0 ll):=Lib.hid (by
         rw[hw7,HSu.out]
         exact HOi.out.drew.putS hqm y)
        rw[←hw7]
        clear hw7 hz6 hc6 HPut c0 hci hc0
        go_wp2_with fail
        go_roundg (L-(i+1))
        case measure=>omega
        case rel=>exact⟨i+1,by omega,by omega,by go_num,HO7.out⟩
       ·have hnx:nextI L i=0:=by unfold nextI;rw[if_neg (by omega)]
        obtain⟨_,hxn,hxe⟩:=HCe.out 0 (by omega)
        rw[hnx,hd0] at hsu
        rw[hd0] at hxn hxe
        obtain⟨d2,hd2⟩:∃ d,d0=d:=⟨_,rfl⟩
        subst hd2
        clear hnx hd0
        obtain⟨q,hq⟩:∃ q,nmL e d=q:=⟨_,rfl⟩
        obtain⟨y,hy⟩:∃ y,nmL e d0=y:=⟨_,rfl⟩
        have hqm:q<m:=by
         have h1:=nmL_lt (n:=n) (by omega) hde hdn
         rw[hq,HMm.out] at h1
         exact h1
        have HN1:=Lib.hid (r10name_any wr.drew d e (by omega) (by omega) hde)
        have HN2:=Lib.hid (r10name_any wr.drew d0 e (by omega) (by omega) hxe)
        rw[hq] at HN1 hsu
        rw[hy] at HN2 hsu
        have HSu:=Lib.hid hsu
        have HPut:=Lib.hid (HOi.out.putS hqm y)
        obtain⟨c0,c1,c2,cz⟩:=HOi.out.cells
        obtain⟨_,e6,hB6,hR6,hc6,hz6⟩:=HOi.out.own.headAt (by rw[toI_length];exact HOi.out.len) hqm
        cases e6
        clear hq hy hsu c1 c2 cz
        go_wp2_with fail
        go_still_tail 9,(by kernel_rfl)
        still_call (Calls.drewS HN1.out)
        repeat still_step
        still_call (Calls.drewS HN2.out)
        repeat still_step
        refine wpStill_nil ?_
        change wpList _ _ _ _ _ wr.drew
        obtain⟨w7,hw7⟩:∃ w7,w7=wr.drew:=⟨_,rfl⟩
        have hz7:w7.frozen? ⟨gS,q,none⟩=false:=by rw[hw7];exact hz6
        have hc7:w7.cell? ⟨gS,q,none⟩=some (.int .i64 (nth (toI (layTo e X TT i)) q)):=by rw[hw7];exact hc6
        have HO7:Hid (OutAt R wb (w7.setCell ⟨gS,q,none⟩ (.int .i64 ((y:Nat):Int))) bo gS m (layTo e X TT (i+1)) 0 ll):=Lib.hid (by
         rw[hw7,HSu.out]
         exact HOi.out.drew.putS hqm y)
        rw[←hw7]
        clear hw7 hz6 hc6 HPut c0 hci hc0
        go_wp2_with fail
        go_roundg (L-(i+1))
        case measure=>omega
        case rel=>exact⟨i+1,by omega,by omega,by go_num,HO7.out⟩
      ·obtain rfl:i=L:=by omega
       have HOz:Hid (OutAt R wb wr bo gS m (layAll e (xss.take (k+1)) T0) 0 (lone+emptyN (xss.take (k+1)))):=Lib.hid (by
        have h:=HOi.out
        rw[←HLl.out,layTo_all] at h
        rw[HEt1.out,HLt.out]
        exact h)
       go_wp2_with fail
       go_roundg (N-(k+1))
       case measure=>omega
       case rel=>exact⟨k+1,by omega,by omega,by go_num,HOz.out⟩
   ·obtain rfl:k=N:=by omega
    have HOz:Hid (OutAt R wb wr bo gS m (layAll e xss T0) 0 (lone+emptyN xss)):=Lib.hid (by
     have h:=HO.out
     rwa [←HNN.out,List.take_length] at h)
    obtain⟨TT,hTT⟩:∃ T,layAll e xss T0=T:=⟨_,rfl⟩
    obtain⟨ll,hll⟩:∃ l,lone+emptyN xss=l:=⟨_,rfl⟩
    rw[hTT,hll] at HOz
    have HTl:=Lib.hid (show layAll e xss (List.replicate (n-2) 0)=TT by rw[HT1.out,hTT])
    have HLl:=Lib.hid hll
    have hsl:=HNn.out
    clear hTT hll HO
    obtain⟨c0,c1,c2,cz⟩:=HOz.out.cells
    by_cases hm0:m=0
    ·have hrt:rootL s e r0=-1:=by unfold rootL;rw[if_pos (by have:=HMm.out;omega)]
     have HRt:=Lib.hid hrt
     obtain rfl:m=0:=hm0
     have hOf:=HOz.out.putR (-1)
     clear hrt
     go_upto_region 25 with fail
     obtain⟨w7,hw7⟩:∃ w7,w7=wr.setCell ⟨bo,1,none⟩ (.int .i64 (-1)):=⟨_,rfl⟩
     rw[←hw7] at hOf ⊢
     have HOf:=Lib.hid hOf
     clear hw7 hOf c0 c1 c2 cz
     obtain⟨c0,c1,c2,cz⟩:=HOf.out.cells
     obtain⟨y0,y1,y2,yz⟩:=box_cells (HB2.out _ HOf.out.ev).1
     go_wp2_with fail
     have hb3:=set3 (x:=.slice (some ⟨gS,0,none⟩) 0 0) (y:=.int .i64 (-1)) (z:=.int .i64 ll) (HB2.out _ HOf.out.ev).1
     obtain⟨u0,u1,u2,_⟩:=box_cells hb3
     have hn2:=(HB2.out _ HOf.out.ev).2
     have hgr:=(HOf.out.own.lt gS rfl).1
     refine bodyPost_ret (v:=refV (.slice (some ⟨gS,0,none⟩) 0 0) (-1) ll) ?_ rfl ?_
     ·simp[results,Tryz.results125,go_sem,u0,u1,u2,refV]
     ·rw[HTl.out,HLl.out,HRt.out]
      refine⟨some ⟨gS,0,none⟩,0,by rw[HOf.out.len],?_,?_⟩
      ·exact (((HEb.out.trans HOf.out.ev).setCell (by simp) hn2 _).setCell (by simp) hn2 _).setCell (by simp) hn2 _
      ·have hne:∀ (o:Nat),(Value.slice (some ⟨gS,0,none⟩) 0 0).ownBlock≠some (⟨w.heap.size+1,o,none⟩:Addr).block:=fun o e'=>by
        have h1:gS=w.heap.size+1:=by simpa [Value.ownBlock] using e'
        have h2:=HZb.out
        omega
       rw[HOf.out.len]
       exact (((HOf.out.own.mono (by have:=HZb.out;omega)).setCell (hne 0) _).setCell (hne 1) _).setCell (hne 2) _
    ·have hmp:0<m:=by omega
     have hmf:decide ((0:Int)<(m:Int))=true:=by simp;omega
     have hrt:rootL s e r0=((rootIn e (orbitL (invL s) r0):Nat):Int):=by
      unfold rootL
      rw[if_neg (by have:=HMm.out;omega),rootGo_orbit HS.out (by omega)]
     have hO7:=(HOz.out.putR (-1)).putR 0
     go_upto_region 19 with fail
     obtain⟨w7,hw7⟩:∃ w7,w7=(wr.setCell ⟨bo,1,none⟩ (.int .i64 (-1))).setCell ⟨bo,1,none⟩ (.int .i64 0):=⟨_,rfl⟩
     first
      | rw[←hw7]
      |(rw[show wr.setCell ⟨bo,1,none⟩ (.int .i64 0)=w7 by rw[hw7];simp])
     rw[←hw7] at hO7
     have HO7:=Lib.hid hO7
     have HEw:=Lib.hid (HEb.out.trans hO7.ev)
     have hbo7:bo<w7.heap.size:=lt_of_block hO7.blk
     have HBo:=Lib.hid hbo7
     obtain⟨O,hO⟩:∃ O,orbitL (invL s) r0=O:=⟨_,rfl⟩
     rw[hO] at HOrb hrt
     have hOl:O.length≤1000001:=by
      rw[←hO]
      have:=orbitL_length (invL s) r0
      rw[invL_length] at this
      omega
     have HOlt:Hid (∀ j,j<O.length→at' O j<n):=Lib.hid fun j hj=>by
      have h1:=orbitL_lt (invL_perm HS.out) (i:=r0) (by rw[invL_length];omega) (at' O j) (by rw[hO,at'_eq hj];exact List.getElem_mem hj)
      rw[invL_length] at h1
      omega
     obtain⟨K,hK⟩:∃ K,O.length=K:=⟨_,rfl⟩
     have HK:=Lib.hid hK
     rw[hK] at hOl HOlt
     have HEd:=Lib.hid ((Ev.refl hO7.ev.inv).drew)
     obtain⟨x0,x1,x2,_⟩:=box_cells (HB1.out _ (hO7.ev.trans HEd.out)).1
     have HRt:=Lib.hid hrt
     clear hw7 hO7 c0 c1 c2 cz hmf hrt hO hK hbo7
     go_cut [13] (fun s13 wx=>∃ aL cL,s13=.slice aL K cL∧OutAt R wb wx bo gS m TT 0 ll∧OwnI R w7.heap.size 3 wx (.slice aL K cL) (toI O))
     case first=>
      go_region_with (first
       |(go_at_call 116;refine (HInv.out _ (HEw.out.trans HEd.out)).mono ?_;rintro z w8 ⟨v8,rfl,he8,ho8⟩;obtain⟨a8,c8,rfl,_⟩:=ho8.ints.open;have HF8:=Lib.hid ho8.free;have HEd:=Lib.hid (HEd.out.trans he8);clear he8 ho8;obtain⟨x0,x1,x2,_⟩:=box_cells (HB1.out _ (HO7.out.ev.trans HEd.out)).1)
       |(go_at_call 120;refine (HOrb.out _ (HEw.out.trans HEd.out) _ HF8.out).mono ?_;rintro z w9 ⟨v9,rfl,he9,ho9⟩;obtain⟨a9,c9,rfl,_⟩:=ho9.ints.open;rw[toI_length,HK.out] at ho9 ⊢;have HO9:=Lib.hid (ho9.mono HEd.out.size);have HEd:=Lib.hid (HEd.out.trans he9);clear he9 ho9;obtain⟨x0,x1,x2,_⟩:=box_cells (HB1.out _ (HO7.out.ev.trans HEd.out)).1))
      all_goals (go_wp2_with fail;go_meet)
      all_goals exact⟨_,_,rfl,HO7.out.evs HEd.out,HO9.out⟩
     case rest=>
      obtain⟨aL,cL,rfl,ho,hf⟩:=hcut
      obtain⟨w9,hw9⟩:∃ w9,w9=wc:=⟨_,rfl⟩
      subst hw9
      have HO9:=Lib.hid ho
      have HF9:=Lib.hid hf
      have hwK:IntKind.i64.wrap ((K:Int)-1)=(K:Int)-1:=IntWalk.i64_in _ (by omega)
      clear ho hf x0 x1 x2
      go_wp2_with fail
      go_loopg [14] K (fun g v14 wr=>∃ (j:Nat) (t:Int),j≤K∧j≤g∧t=(j:Int)-1∧v14=.int .i64 t∧OutAt R wb wr bo gS m TT ((rootIn e (O.drop j):Nat):Int) ll∧OwnI R w7.heap.size 3 wr (.slice aL K cL) (toI O))
      case atStart=>exact⟨K,_,Nat.le_refl _,Nat.le_refl _,rfl,rfl,by rw[←HK.out,List.drop_length];exact HO9.out,HF9.out⟩
      case round=>
       obtain⟨j,t,hjK,hg,ht,rfl,ho,hf⟩:=hrel
       have HOj:=Lib.hid ho
       have HFj:=Lib.hid hf
       clear ho hf
       cases j with
       | zero=>
        obtain rfl:t=-1:=by omega
        clear ht
        have HOf:=HOj
        rw[List.drop_zero] at HOf
        obtain⟨rr,hrr⟩:∃ x,((rootIn e O:Nat):Int)=x:=⟨_,rfl⟩
        rw[hrr] at HOf HRt
        clear hrr HOj
        go_upto_region 25 with fail
        obtain⟨c0,c1,c2,cz⟩:=HOf.out.cells
        obtain⟨y0,y1,y2,yz⟩:=box_cells (HB2.out _ HOf.out.ev).1
        go_wp2_with fail
        have hb3:=set3 (x:=.slice (some ⟨gS,0,none⟩) m m) (y:=.int .i64 rr) (z:=.int .i64 ll) (HB2.out _ HOf.out.ev).1
        obtain⟨u0,u1,u2,_⟩:=box_cells hb3
        have hn2:=(HB2.out _ HOf.out.ev).2
        have hgr:=(HOf.out.own.lt gS rfl).1
        refine bodyPost_ret (v:=refV (.slice (some ⟨gS,0,none⟩) m m) rr ll) ?_ rfl ?_
        ·simp[results,Tryz.results125,go_sem,u0,u1,u2,refV]
        ·rw[HTl.out,HLl.out,HRt.out]
         refine⟨some ⟨gS,0,none⟩,m,by rw[HOf.out.len],?_,?_⟩
         ·exact (((HEb.out.trans HOf.out.ev).setCell (by simp) hn2 _).setCell (by simp) hn2 _).setCell (by simp) hn2 _
         ·have hne:∀ (o:Nat),(Value.slice (some ⟨gS,0,none⟩) m m).ownBlock≠some (⟨w.heap.size+1,o,none⟩:Addr).block:=fun o e'=>by
           have h1:gS=w.heap.size+1:=by simpa [Value.ownBlock] using e'
           have h2:=HZb.out
           omega
          rw[HOf.out.len]
          exact (((HOf.out.own.mono (by have:=HZb.out;omega)).setCell (hne 0) _).setCell (hne 1) _).setCell (hne 2) _
       | succ j=>
        obtain rfl:t=(j:Int):=by omega
        clear ht
        obtain⟨gL,rfl,_,_,hcx,_⟩:=HFj.out.headAt (by rw[toI_length,HK.out]) (i:=j) (by omega)
        rw[toI_nth] at hcx
        have hxl:=HOlt.out j (by omega)
        have hdr:O.drop j=at' O j :: O.drop (j+1):=by
         rw[List.drop_eq_getElem_cons (by rw[HK.out];omega),at'_eq (by rw[HK.out];omega)]
        obtain⟨x,hx⟩:∃ x,at' O j=x:=⟨_,rfl⟩
        rw[hx] at hcx hxl hdr
        have hw1:wrap64 ((x:Int) / 2)=(x:Int) / 2:=by unfold wrap64;omega
        have hwj:IntKind.i64.wrap ((j:Int)-1)=(j:Int)-1:=IntWalk.i64_in _ (by omega)
        have hric:=rootIn_cons e x (O.drop (j+1))
        rw[←hdr] at hric
        obtain⟨rr,hrr⟩:∃ x,((rootIn e (O.drop (j+1)):Nat):Int)=x:=⟨_,rfl⟩
        rw[hrr] at HOj
        clear hx hdr
        by_cases hxe:x / 2=e
        ·have hb:((x:Int) / 2 != (e:Int))=false:=by simp;omega
         rw[if_pos hxe] at hric
         have HRc:=Lib.hid (show ((rootIn e (O.drop j):Nat):Int)=rr by rw[hric,hrr])
         clear hric hrr hxe
         go_wp2_with fail
         go_roundg j
         case measure=>omega
         case rel=>exact⟨j,_,by omega,Nat.le_refl _,rfl,rfl,by rw[HRc.out];exact HOj.out,HFj.out⟩
        ·have hb:((x:Int) / 2 != (e:Int))=true:=by simp;omega
         rw[if_neg hxe] at hric
         have HNx:=Lib.hid (r10name_any wr x e (by omega) (by omega) hxe)
         have HRc:=Lib.hid hric
         obtain⟨y,hy⟩:∃ y,nmL e x=y:=⟨_,rfl⟩
         rw[hy] at HNx HRc
         obtain⟨c0,c1,c2,cz⟩:=HOj.out.cells
         have HOp:=Lib.hid (HOj.out.putR (y:Int))
         have HFp:=Lib.hid (HFj.out.setCell (a:=⟨bo,1,none⟩) (fun e'=>by
          have h1:=(HFj.out.lt _ e').1
          have h2:=HBo.out
          simp at h1
          omega) (.int .i64 (y:Int)))
         clear hric hrr hxe hy
         go_wp2_with fail
         refine HNx.out.mono ?_
         rintro z w' ⟨rfl,rfl⟩
         go_wp2_with fail
         go_roundg j
         case measure=>omega
         case rel=>exact⟨j,_,by omega,Nat.le_refl _,rfl,rfl,by rw[HRc.out];exact HOp.out,HFp.out⟩
end
section
set_option linter.unusedVariables false
section
variable {s : List Nat} (hs : IsPerm s) (he : s.length % 2 = 0) {e : Nat} (hn : 2 * e + 2 ≤ s.length)
include hs he hn
end
end
end Go.Proofs.YtklkgicjfnbndaaGreat
