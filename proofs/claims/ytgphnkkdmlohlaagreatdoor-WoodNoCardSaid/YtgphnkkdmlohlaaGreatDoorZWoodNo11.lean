/- the references of layer 6: Mate, Phi, Vertices, Borders. -/
import Derived.Test.YtgphnkkdmlohlaaGreatDoorZWoodNo09
import Derived.Test.YtgphnkkdmlohlaaGreatDoorZWoodNo10
import Derived.Deep.RegionLaw
import Derived.Test.YtgphnkkdmlohlaaGreatDoorZWoodNo01
namespace Go.Proofs.YtgphnkkdmlohlaaGreatDoor
section
open Go.RowKit
set_option linter.unusedVariables false
theorem step_app_int {ops:Array Oper} {o:Oper} {a:Act} {w:World} {K:Act→World→Prop} {Q:Exit→Act→World→Prop} {E:Prop} (hgd:o.guard=none) (s x:Operand)
  (ho:o.op=.call { callee:=.builtin .append,args:=#[s,x],argTypes:=#[25,25] })
  {R:Reg} {B:Nat} {v:Value} {xs:List Int} (hown:OwnI R B 3 w v xs) (hs:a.eval s=v) (ad:Addr) (c:Nat) (y:Int) (hx:a.eval x=.slice (some ad) 1 c)
  (hc:w.cell? ad=some (.int .i64 y)) (hn:xs.length≤8388607) (hB:B≤w.heap.size) (hR:∀ k,w.heap.size≤k→R k=none)
  (h:∀ v' w',OwnI R B 3 w' v' (xs ++ [y])→w.grownBy w' v.ownBlock→(∀ k,v'.ownBlock=some k→v.ownBlock=some k∨w.heap.size≤k)→K (a.put o.dst v') w'):
  if Region.wanted o (yielded ops a.tmps)=true then Oper.wp Tryz.prog o a w K Q else E:=by
 have hw:Region.wanted o (yielded ops a.tmps)=true:=by simp[Region.wanted,hgd]
 rw[if_pos hw]
 obtain⟨i0,hi,hz0,hz1,hz2⟩:=info_parts int_info
 obtain⟨v',w',hr,h2,h3,h4⟩:=run_append_where (P:=Tryz.prog) w B 25 o.type 3 i0 (.int .i64 0) 1 8 Tryz.underlying25 hi hz0 hz1 hz2 rfl (by decide) v xs.length _ hown.1 ad 1 c [.int .i64 y]
  rfl
  (by
   intro j u hj
   match j,hj with
   | 0,hj=>
    simp only[List.getElem?_cons_zero,Option.some.injEq] at hj
    subst hj
    obtain⟨b,off,sp⟩:=ad
    simpa [Addr.add] using hc)
  (by
   intro u hu
   simp only[List.mem_singleton] at hu
   subst hu
   rfl) (by unfold maxLen;omega) (by omega) hB
 unfold Oper.wp execOp
 simp only[ho,resolve,invoke,builtin,Sem.run_bind,Sem.run_pure,Result.andThen_ok,List.map_toArray,List.map_cons,List.map_nil,hs,hx,hr]
 refine h v' w' ⟨?_,?_⟩ h3 h4
 ·simpa using h2
 ·intro k hk
  rcases h4 k hk with e|e
  ·exact hown.2 k e
  ·exact hR k e
theorem rmate_any (w:World) (i:Nat) (hi:i≤4194304):
  Calls Tryz.prog 9 #[.int .i64 (i:Int)] w fun e w'=>e=.returned (.int .i64 ((i ^^^ 1:Nat):Int))∧w=w':=by
 have hx:=xor_one i
 by_cases h:i % 2=0
 ·rw[if_pos h] at hx
  have HX:=Lib.hid hx
  have h':((i:Int) % 2 == 0)=true:=by rw[beq_iff_eq];omega
  clear hx h
  go_enter Tryz.func9,Tryz.ntmps9
  go_wp2
  go_ret
  exact⟨ret_int (by rw[HX.out];omega),rfl⟩
 ·rw[if_neg h] at hx
  have HX:=Lib.hid hx
  have h':((i:Int) % 2 == 0)=false:=by rw[beq_eq_false_iff_ne];omega
  have h1:1≤i:=by omega
  clear hx h
  go_enter Tryz.func9,Tryz.ntmps9
  go_wp2
  go_ret
  exact⟨ret_int (by rw[HX.out];omega),rfl⟩
def refV (v:Value) (root lone:Int):Value:=.agg #[v,.int .i64 root,.int .i64 lone]
theorem phiL_take_succ {s:List Nat} {k:Nat} (hk:k<s.length):(phiL s).take (k+1)=(phiL s).take k ++ [at' s (k ^^^ 1)]:=by
 rw[List.take_succ_eq_append_getElem (by rw[phiL_length];exact hk)]
 simp[phiL]
set_option maxRecDepth 100000 in
set_option maxHeartbeats 2000000 in
theorem rphi_any (R:Reg) (w:World) (hI:Inv R w) (v:Value) (s:List Nat) (root lone:Int) (hv:FreeI R w v (toI s)) (hn:s.length≤4194304) (he:s.length % 2=0):
  Calls Tryz.prog 59 #[refV v root lone] w (RetOwn R w (toI (phiL s))):=by
 obtain⟨a0,cap0,rfl,hv⟩:=hv.open
 rw[toI_length] at hv ⊢
 obtain⟨n,hl⟩:∃ n,s.length=n:=⟨_,rfl⟩
 have HL:=Lib.hid hl
 rw[hl] at hn he hv ⊢
 have HI:=Lib.hid hI
 have HV:=Lib.hid hv
 have hM:=rmate_any
 have HMT:=Lib.hid hM
 clear hI hl hv hM
 unfold refV
 go_enter Tryz.func59,Tryz.ntmps59
 go_wp2_with fail
 have c0:∀ wr:World,Ev R (w.alloc (.cells #[.slice a0 n cap0,.int .i64 root,.int .i64 lone] 27)) R wr→wr.cell? ⟨w.heap.size,0,none⟩=some (.slice a0 n cap0):=fun wr h=>by
  rw[h.cell (by simp) (HI.out.none_of_ge (Nat.le_refl _))]
  simp
 have HC0:=Lib.hid c0
 clear c0
 go_loopg [3,8] n (fun g v3 v8 wr=>∃ k:Nat,k≤n∧n-k≤g∧v8=.int .i64 (k:Int)∧Ev R (w.alloc (.cells #[.slice a0 n cap0,.int .i64 root,.int .i64 lone] 27)) R wr∧OwnI R (w.heap.size+1) 3 wr v3 (toI ((phiL s).take k)))
 case atStart=>exact⟨0,Nat.zero_le _,by omega,rfl,Ev.refl (HI.out.alloc _),OwnI.nil R _ _ _⟩
 case round=>
  obtain⟨k,hk,hg,rfl,he1,ho⟩:=hrel
  have HE:=Lib.hid he1
  have HO:=Lib.hid ho
  clear he1 ho
  by_cases hkn:k<n
  ·have c0:=HC0.out wr HE.out
   have hx1:=xor_one_lt he hkn
   obtain⟨b',off,e1,hc⟩:=(HV.out.ev (((Ev.refl HI.out).alloc _).trans HE.out)).at (i:=k ^^^ 1) (by rw[HL.out];exact hx1)
   subst e1
   obtain⟨j,hj⟩:∃ j,k ^^^ 1=j:=⟨_,rfl⟩
   rw[hj] at hx1 hc
   have hM:=HMT.out wr.drew k (by omega)
   rw[hj] at hM
   have HMK:=Lib.hid hM
   have HJ:=Lib.hid hj
   have hwz:w.heap.size+1≤wr.heap.size:=by have:=HE.out.size;simpa using this
   have hlt:=lt_of_cell hc
   have hlt0:=lt_of_cell c0
   have HX4:=Lib.hid (show (toI ((phiL s).take k)).length≤8388607 by rw[toI_length,List.length_take,phiL_length,HL.out];omega)
   have HX5:=Lib.hid (show w.heap.size+1≤((wr.alloc (.cells #[.int .i64 ((at' s j:Nat):Int)] 3)).drew).heap.size by simp;omega)
   have HX6:=Lib.hid (show ∀ q,((wr.alloc (.cells #[.int .i64 ((at' s j:Nat):Int)] 3)).drew).heap.size≤q→R q=none from fun q hq=>HE.out.inv.none_of_ge (by simp at hq;omega))
   clear hM hj
   go_wp2_with fail
   go_region_law (first|(refine step_app_int rfl (.tmp 11) (.tmp 18) rfl (HO.out.alloc _).drew ?h1 ⟨wr.heap.size,0,none⟩ 1 ((at' s j:Nat):Int) ?h2 ?h3 ?h4 ?h5 ?h6 ?_;(case h1=>simp[Act.eval]);(case h2=>simp[Act.eval]);(case h3=>simp);(case h4=>exact HX4.out);(case h5=>exact HX5.out);(case h6=>exact HX6.out);intro v' w2 ho2 hg2 hs2)|(go_simp;go_at_call 9;refine HMK.out.mono ?_;rintro e w' ⟨rfl,rfl⟩))
   all_goals
    have he2:=(HE.out.alloc (.cells #[.int .i64 ((at' s j:Nat):Int)] 3)).drew.app (HO.out.alloc _).drew (by simp) hg2
    have HE2:=Lib.hid he2
    have HO2:=Lib.hid ho2
    clear he2 ho2 hg2 hs2
    go_wp2_with fail
    go_roundg (n-(k+1))
    case measure=>omega
    case rel=>exact⟨k+1,by omega,by omega,by go_num,HE2.out,by rw[phiL_take_succ (by rw[HL.out];exact hkn),toI_append,HJ.out];exact HO2.out⟩
  ·obtain rfl:k=n:=by omega
   go_wp2_with fail
   go_ret
   refine⟨_,rfl,((Ev.refl HI.out).alloc _).trans HE.out,?_⟩
   have:=HO.out
   rw[List.take_of_length_le (by rw[phiL_length,HL.out];exact Nat.le_refl _)] at this
   exact this.mono (by omega)
set_option maxRecDepth 100000 in
set_option maxHeartbeats 1000000 in
theorem rvertices_any (R:Reg) (w:World) (hI:Inv R w) (v:Value) (s:List Nat) (root lone:Int) (hv:FreeI R w v (toI s)) (hS:IsPerm s) (hn:s.length≤4194304) (hl0:0≤lone) (hl1:lone≤65536):
  Calls Tryz.prog 24 #[refV v root lone] w (RetE R w (.int .i64 ((sizesL s).length+lone))):=by
 obtain⟨a0,cap0,rfl,hv⟩:=hv.open
 have hsz:=sizesL_le hS
 obtain⟨k,hk⟩:∃ k,(sizesL s).length=k:=⟨_,rfl⟩
 have hw:IntKind.i64.wrap ((k:Int)+lone)=(k:Int)+lone:=IntWalk.i64_in _ (by omega)
 have he0:Ev R w R ((w.alloc (.cells #[.slice a0 (toI s).length cap0,.int .i64 root,.int .i64 lone] 27)).drew):=((Ev.refl hI).alloc _).drew
 have hc:=rcount_any R _ he0.inv _ s (hv.ev he0) hS hn
 rw[hk] at hc hsz ⊢
 have HC:=Lib.hid hc
 have HE0:=Lib.hid he0
 have hcell:∀ w',Ev R ((w.alloc (.cells #[.slice a0 (toI s).length cap0,.int .i64 root,.int .i64 lone] 27)).drew) R w'→w'.cell? ⟨w.heap.size,2,none⟩=some (.int .i64 lone):=fun w' h=>by
  rw[h.cell (by simp) (hI.none_of_ge (Nat.le_refl _))]
  simp
 have HCL:=Lib.hid hcell
 clear hI hv hS hc he0 hcell hk
 unfold refV
 go_enter Tryz.func24,Tryz.ntmps24
 go_wp2_with fail
 go_region_with (go_at_call 60;refine HC.out.mono ?_;rintro e w' ⟨rfl,he⟩;have c2:=HCL.out w' he;have HE:=Lib.hid he;clear he)
 all_goals go_wp2_with fail
 all_goals go_ret
 all_goals exact⟨rfl,HE0.out.trans HE.out⟩
end
section
open Go.RowKit
set_option linter.unusedVariables false
theorem step_app_two {ops:Array Oper} {o:Oper} {a:Act} {w:World} {K:Act→World→Prop} {Q:Exit→Act→World→Prop} {E:Prop} (hgd:o.guard=none) (s x:Operand)
  (ho:o.op=.call { callee:=.builtin .append,args:=#[s,x],argTypes:=#[25,25] })
  {R:Reg} {B:Nat} {v:Value} {xs:List Int} (hown:OwnI R B 3 w v xs) (hs:a.eval s=v) (b:Nat) (c:Nat) (y z:Int) (hx:a.eval x=.slice (some ⟨b,0,none⟩) 2 c)
  (hc:w.cell? ⟨b,0,none⟩=some (.int .i64 y)) (hc2:w.cell? ⟨b,1,none⟩=some (.int .i64 z)) (hn:xs.length≤8388606) (hB:B≤w.heap.size) (hR:∀ k,w.heap.size≤k→R k=none)
  (h:∀ v' w',OwnI R B 3 w' v' (xs ++ [y,z])→w.grownBy w' v.ownBlock→(∀ k,v'.ownBlock=some k→v.ownBlock=some k∨w.heap.size≤k)→K (a.put o.dst v') w'):
  if Region.wanted o (yielded ops a.tmps)=true then Oper.wp Tryz.prog o a w K Q else E:=by
 have hw:Region.wanted o (yielded ops a.tmps)=true:=by simp[Region.wanted,hgd]
 rw[if_pos hw]
 obtain⟨i0,hi,hz0,hz1,hz2⟩:=info_parts int_info
 obtain⟨v',w',hr,h2,h3,h4⟩:=run_append_where (P:=Tryz.prog) w B 25 o.type 3 i0 (.int .i64 0) 1 8 Tryz.underlying25 hi hz0 hz1 hz2 rfl (by decide) v xs.length _ hown.1 ⟨b,0,none⟩ 2 c [.int .i64 y,.int .i64 z]
  rfl
  (by
   intro j u hj
   match j,hj with
   | 0,hj=>
    simp only[List.getElem?_cons_zero,Option.some.injEq] at hj
    subst hj
    simpa [Addr.add] using hc
   | 1,hj=>
    simp only[List.getElem?_cons_succ,List.getElem?_cons_zero,Option.some.injEq] at hj
    subst hj
    simpa [Addr.add] using hc2)
  (by
   intro u hu
   simp only[List.mem_cons,List.not_mem_nil,or_false] at hu
   rcases hu with rfl|rfl <;> rfl) (by unfold maxLen;omega) (by omega) hB
 unfold Oper.wp execOp
 simp only[ho,resolve,invoke,builtin,Sem.run_bind,Sem.run_pure,Result.andThen_ok,List.map_toArray,List.map_cons,List.map_nil,hs,hx,hr]
 refine h v' w' ⟨?_,?_⟩ h3 h4
 ·simpa using h2
 ·intro k hk
  rcases h4 k hk with h5|h5
  ·exact hown.2 k h5
  ·exact hR k h5
end
section
open Go.RowKit
set_option linter.unusedVariables false
end
section
set_option linter.unusedVariables false
end
section
set_option linter.unusedVariables false
def sS (L:List Int) (s:Int) (j:Nat):Bool:=decide (nth L j / 2=s)
def ownL (L:List Int) (s:Int) (i:Nat):List Int:=(srt (sS L s) i).map fun j=>1-nth L j % 2
def atL (L:List Int) (s:Int) (i:Nat):List Int:=toI (srt (sS L s) i)
theorem srt_succ (S:Nat→Bool) (i:Nat):srt S (i+1)=if S i=true then srt S i ++ [i] else srt S i:=by
 unfold srt
 rw[List.range_succ,List.filter_append]
 by_cases h:S i=true
 ·rw[if_pos h];simp[h]
 ·rw[if_neg h];simp[h]
theorem srt_le (S:Nat→Bool) (i:Nat):(srt S i).length≤i:=by
 have:=List.length_filter_le S (List.range i)
 rwa [List.length_range] at this
theorem sort_yes {L:List Int} {s:Int} {i:Nat} (h:nth L i / 2=s):ownL L s (i+1)=ownL L s i ++ [1-nth L i % 2]∧atL L s (i+1)=atL L s i ++ [(i:Int)]:=by
 unfold ownL atL
 rw[srt_succ,if_pos (show sS L s i=true by simp[sS,h])]
 exact⟨by simp,by simp[toI]⟩
theorem sort_no {L:List Int} {s:Int} {i:Nat} (h:¬ nth L i / 2=s):ownL L s (i+1)=ownL L s i∧atL L s (i+1)=atL L s i:=by
 unfold ownL atL
 rw[srt_succ,if_neg (show ¬ sS L s i=true by simp[sS,h])]
 exact⟨rfl,rfl⟩
theorem ownL_length (L:List Int) (s:Int) (i:Nat):(ownL L s i).length=(srt (sS L s) i).length:=by simp[ownL]
theorem atL_length (L:List Int) (s:Int) (i:Nat):(atL L s i).length=(srt (sS L s) i).length:=by simp[atL,toI]
end
section
open Go.RowKit
set_option linter.unusedVariables false
def RetTwoS (R:Reg) (w:World) (xs ys:List Int) (e:Ending) (w':World):Prop:=
 ∃ a b c d,e=.returned (.tuple #[.slice a xs.length c,.slice b ys.length d])∧Ev R w R w'∧OwnI R w.heap.size 3 w' (.slice a xs.length c) xs∧OwnI R w.heap.size 3 w' (.slice b ys.length d) ys
theorem dis_ne2 {u v:Value} (h:∀ k,u.ownBlock=some k→v.ownBlock≠some k):v.ownBlock=none∨v.ownBlock≠u.ownBlock:=by
 cases hu:u.ownBlock with
 | none=>
  cases hv:v.ownBlock with
  | none=>exact Or.inl rfl
  | some k=>exact Or.inr (by simp)
 | some k=>exact Or.inr (h k hu)
set_option maxRecDepth 100000 in
set_option maxHeartbeats 4000000 in
theorem rsort_any (R:Reg) (w:World) (hI:Inv R w) (v:Value) (L:List Int) (hv:FreeI R w v L) (hk:∀ i,i<L.length→0≤nth L i∧nth L i≤3) (hn:L.length≤1000000) (s:Int) (hs:s=0∨s=1):
  Calls Tryz.prog 115 #[v,.int .i64 s] w (RetTwoS R w (ownL L s L.length) (atL L s L.length)):=by
 obtain⟨a0,cap0,rfl,hv⟩:=hv.open
 obtain⟨n,hl⟩:∃ n,L.length=n:=⟨_,rfl⟩
 rw[hl] at hv hk hn ⊢
 have HL:=Lib.hid hl
 have HV:=Lib.hid hv
 have HK:=Lib.hid hk
 have HI:=Lib.hid hI
 clear hl hv hk hI
 go_enter Tryz.func115,Tryz.ntmps115
 go_wp2_with fail
 go_loopg [6,7,12] n (fun g v6 v7 v12 wr=>∃ (i:Nat) (a6:Option Addr) (l6 c6:Nat) (a7:Option Addr) (l7 c7:Nat),i≤n∧n-i≤g∧v12=.int .i64 (i:Int)∧v6=.slice a6 l6 c6∧v7=.slice a7 l7 c7∧Ev R w R wr∧OwnI R w.heap.size 3 wr (.slice a6 l6 c6) (ownL L s i)∧OwnI R w.heap.size 3 wr (.slice a7 l7 c7) (atL L s i)∧(∀ k,(Value.slice a6 l6 c6).ownBlock=some k→(Value.slice a7 l7 c7).ownBlock≠some k))
 case atStart=>exact⟨0,none,0,0,none,0,0,Nat.zero_le _,by omega,rfl,rfl,rfl,Ev.refl HI.out,OwnI.nil R _ _ _,OwnI.nil R _ _ _,fun k h=>by cases h⟩
 case round=>
  obtain⟨i,a6,l6,c6,a7,l7,c7,hi,hg,rfl,rfl,rfl,he1,ho6,ho7,hds⟩:=hrel
  have HE:=Lib.hid he1
  have HO6:=Lib.hid ho6
  have HO7:=Lib.hid ho7
  have HDs:=Lib.hid hds
  clear he1 ho6 ho7 hds
  by_cases hil:i<n
  ·obtain⟨bS,oS,rfl,hc⟩:=(HV.out.ev HE.out).1.cell (i:=i) (by rw[HL.out];exact hil)
   have hk:=HK.out i hil
   have hyes:=sort_yes (L:=L) (s:=s) (i:=i)
   have hno:=sort_no (L:=L) (s:=s) (i:=i)
   have hb6:(ownL L s i).length≤8388607:=by rw[ownL_length];have:=srt_le (sS L s) i;omega
   have hb7:(atL L s i).length≤8388607:=by rw[atL_length];have:=srt_le (sS L s) i;omega
   obtain⟨k,hkx⟩:∃ k,nth L i=k:=⟨_,rfl⟩
   rw[hkx] at hc hk hyes hno
   clear hkx
   have HY:=Lib.hid hyes
   have HN:=Lib.hid hno
   have HB6:=Lib.hid hb6
   have HB7:=Lib.hid hb7
   clear hyes hno hb6 hb7
   have hz:w.heap.size≤wr.heap.size:=HE.out.size
   have hk4:k=0∨k=1∨k=2∨k=3:=by omega
   clear hk
   rcases hs with hs0|hs0
   ·rcases hk4 with rfl|rfl|rfl|rfl
    ·subst hs0
     have HE5:=Lib.hid (HE.out.alloc (.cells #[.int .i64 (1)] 3))
     have HO5:=Lib.hid (HO6.out.alloc (.cells #[.int .i64 (1)] 3))
     go_wp2_with (at_builtin;refine wpList_app_int (R:=R) (B:=w.heap.size) rfl _ _ rfl HO5.out rfl ⟨wr.heap.size,0,none⟩ 1 (1) rfl ?a1 ?a2 ?a3 ?a4 ?_)
     case a1=>simp
     case a2=>exact HB6.out
     case a3=>first|omega|(simp;omega)
     case a4=>exact fun q hq=>HE5.out.inv.none_of_ge (by simp at hq ⊢;omega)
     intro v8 w6 ho8 hg6 hs6
     obtain⟨a8,c8,rfl,_⟩:=ho8.ints.open
     obtain⟨l8,hl8⟩:∃ l,(ownL L 0 i ++ [(1:Int)]).length=l:=⟨_,rfl⟩
     rw[hl8] at ho8 hs6
     try rw[hl8]
     clear hl8
     have HE6:=Lib.hid (HE5.out.app HO5.out (Nat.le_refl _) hg6)
     have HO7b:=Lib.hid (((HO7.out.alloc (.cells #[.int .i64 (1)] 3)).kept hg6 (dis_ne2 HDs.out)).alloc (.cells #[.int .i64 (i:Int)] 3))
     have HD6:Hid (∀ k,(Value.slice a8 l8 c8).ownBlock=some k→(Value.slice a7 l7 c7).ownBlock≠some k):=Lib.hid fun k h1 h2=>by
      rcases hs6 k h1 with h|h
      ·exact HDs.out k h h2
      ·have:=(HO7.out.lt k h2).2
       try simp at h
       omega
     have HO8:=Lib.hid (ho8.alloc (.cells #[.int .i64 (i:Int)] 3))
     have HE7:=Lib.hid (HE6.out.alloc (.cells #[.int .i64 (i:Int)] 3))
     have hz6:w.heap.size≤w6.heap.size:=by have:=hg6.size;simp at this;omega
     clear ho8 hg6 hs6
     go_wp2_with (at_builtin;refine wpList_app_int (R:=R) (B:=w.heap.size) rfl _ _ rfl HO7b.out rfl ⟨w6.heap.size,0,none⟩ 1 (i:Int) rfl ?b1 ?b2 ?b3 ?b4 ?_)
     case b1=>simp
     case b2=>exact HB7.out
     case b3=>first|omega|(simp;omega)
     case b4=>exact fun q hq=>HE7.out.inv.none_of_ge (by simp at hq ⊢;omega)
     intro v9 w8 ho9 hg8 hs8
     obtain⟨a9,c9,rfl,_⟩:=ho9.ints.open
     obtain⟨l9,hl9⟩:∃ l,(atL L 0 i ++ [(i:Int)]).length=l:=⟨_,rfl⟩
     rw[hl9] at ho9 hs8
     try rw[hl9]
     clear hl9
     have HE8:=Lib.hid (HE7.out.app HO7b.out (Nat.le_refl _) hg8)
     have HO10:=Lib.hid (HO8.out.kept hg8 (dis_ne2 fun k h1 h2=>HD6.out k h2 h1))
     have HD8:Hid (∀ k,(Value.slice a8 l8 c8).ownBlock=some k→(Value.slice a9 l9 c9).ownBlock≠some k):=Lib.hid fun k h1 h2=>by
      rcases hs8 k h2 with h|h
      ·exact HD6.out k h1 h
      ·have:=(HO8.out.lt k h1).2
       simp at h this
       omega
     have HO9:=Lib.hid ho9
     clear ho9 hg8 hs8
     go_wp2_with fail
     go_roundg (n-(i+1))
     case measure=>omega
     case rel=>exact⟨i+1,_,_,_,_,_,_,by omega,by omega,by go_num,rfl,rfl,HE8.out,by rw[(HY.out (by decide)).1];exact HO10.out,by rw[(HY.out (by decide)).2];exact HO9.out,HD8.out⟩
    ·subst hs0
     have HE5:=Lib.hid (HE.out.alloc (.cells #[.int .i64 (0)] 3))
     have HO5:=Lib.hid (HO6.out.alloc (.cells #[.int .i64 (0)] 3))
     go_wp2_with (at_builtin;refine wpList_app_int (R:=R) (B:=w.heap.size) rfl _ _ rfl HO5.out rfl ⟨wr.heap.size,0,none⟩ 1 (0) rfl ?a1 ?a2 ?a3 ?a4 ?_)
     case a1=>simp
     case a2=>exact HB6.out
     case a3=>first|omega|(simp;omega)
     case a4=>exact fun q hq=>HE5.out.inv.none_of_ge (by simp at hq ⊢;omega)
     intro v8 w6 ho8 hg6 hs6
     obtain⟨a8,c8,rfl,_⟩:=ho8.ints.open
     obtain⟨l8,hl8⟩:∃ l,(ownL L 0 i ++ [(0:Int)]).length=l:=⟨_,rfl⟩
     rw[hl8] at ho8 hs6
     try rw[hl8]
     clear hl8
     have HE6:=Lib.hid (HE5.out.app HO5.out (Nat.le_refl _) hg6)
     have HO7b:=Lib.hid (((HO7.out.alloc (.cells #[.int .i64 (0)] 3)).kept hg6 (dis_ne2 HDs.out)).alloc (.cells #[.int .i64 (i:Int)] 3))
     have HD6:Hid (∀ k,(Value.slice a8 l8 c8).ownBlock=some k→(Value.slice a7 l7 c7).ownBlock≠some k):=Lib.hid fun k h1 h2=>by
      rcases hs6 k h1 with h|h
      ·exact HDs.out k h h2
      ·have:=(HO7.out.lt k h2).2
       try simp at h
       omega
     have HO8:=Lib.hid (ho8.alloc (.cells #[.int .i64 (i:Int)] 3))
     have HE7:=Lib.hid (HE6.out.alloc (.cells #[.int .i64 (i:Int)] 3))
     have hz6:w.heap.size≤w6.heap.size:=by have:=hg6.size;simp at this;omega
     clear ho8 hg6 hs6
     go_wp2_with (at_builtin;refine wpList_app_int (R:=R) (B:=w.heap.size) rfl _ _ rfl HO7b.out rfl ⟨w6.heap.size,0,none⟩ 1 (i:Int) rfl ?b1 ?b2 ?b3 ?b4 ?_)
     case b1=>simp
     case b2=>exact HB7.out
     case b3=>first|omega|(simp;omega)
     case b4=>exact fun q hq=>HE7.out.inv.none_of_ge (by simp at hq ⊢;omega)
     intro v9 w8 ho9 hg8 hs8
     obtain⟨a9,c9,rfl,_⟩:=ho9.ints.open
     obtain⟨l9,hl9⟩:∃ l,(atL L 0 i ++ [(i:Int)]).length=l:=⟨_,rfl⟩
     rw[hl9] at ho9 hs8
     try rw[hl9]
     clear hl9
     have HE8:=Lib.hid (HE7.out.app HO7b.out (Nat.le_refl _) hg8)
     have HO10:=Lib.hid (HO8.out.kept hg8 (dis_ne2 fun k h1 h2=>HD6.out k h2 h1))
     have HD8:Hid (∀ k,(Value.slice a8 l8 c8).ownBlock=some k→(Value.slice a9 l9 c9).ownBlock≠some k):=Lib.hid fun k h1 h2=>by
      rcases hs8 k h2 with h|h
      ·exact HD6.out k h1 h
      ·have:=(HO8.out.lt k h1).2
       simp at h this
       omega
     have HO9:=Lib.hid ho9
     clear ho9 hg8 hs8
     go_wp2_with fail
     go_roundg (n-(i+1))
     case measure=>omega
     case rel=>exact⟨i+1,_,_,_,_,_,_,by omega,by omega,by go_num,rfl,rfl,HE8.out,by rw[(HY.out (by decide)).1];exact HO10.out,by rw[(HY.out (by decide)).2];exact HO9.out,HD8.out⟩
    ·subst hs0
     go_wp2_with fail
     go_roundg (n-(i+1))
     case measure=>omega
     case rel=>exact⟨i+1,_,_,_,_,_,_,by omega,by omega,by go_num,rfl,rfl,HE.out,by rw[(HN.out (by decide)).1];exact HO6.out,by rw[(HN.out (by decide)).2];exact HO7.out,HDs.out⟩
    ·subst hs0
     go_wp2_with fail
     go_roundg (n-(i+1))
     case measure=>omega
     case rel=>exact⟨i+1,_,_,_,_,_,_,by omega,by omega,by go_num,rfl,rfl,HE.out,by rw[(HN.out (by decide)).1];exact HO6.out,by rw[(HN.out (by decide)).2];exact HO7.out,HDs.out⟩
   ·rcases hk4 with rfl|rfl|rfl|rfl
    ·subst hs0
     go_wp2_with fail
     go_roundg (n-(i+1))
     case measure=>omega
     case rel=>exact⟨i+1,_,_,_,_,_,_,by omega,by omega,by go_num,rfl,rfl,HE.out,by rw[(HN.out (by decide)).1];exact HO6.out,by rw[(HN.out (by decide)).2];exact HO7.out,HDs.out⟩
    ·subst hs0
     go_wp2_with fail
     go_roundg (n-(i+1))
     case measure=>omega
     case rel=>exact⟨i+1,_,_,_,_,_,_,by omega,by omega,by go_num,rfl,rfl,HE.out,by rw[(HN.out (by decide)).1];exact HO6.out,by rw[(HN.out (by decide)).2];exact HO7.out,HDs.out⟩
    ·subst hs0
     have HE5:=Lib.hid (HE.out.alloc (.cells #[.int .i64 (1)] 3))
     have HO5:=Lib.hid (HO6.out.alloc (.cells #[.int .i64 (1)] 3))
     go_wp2_with (at_builtin;refine wpList_app_int (R:=R) (B:=w.heap.size) rfl _ _ rfl HO5.out rfl ⟨wr.heap.size,0,none⟩ 1 (1) rfl ?a1 ?a2 ?a3 ?a4 ?_)
     case a1=>simp
     case a2=>exact HB6.out
     case a3=>first|omega|(simp;omega)
     case a4=>exact fun q hq=>HE5.out.inv.none_of_ge (by simp at hq ⊢;omega)
     intro v8 w6 ho8 hg6 hs6
     obtain⟨a8,c8,rfl,_⟩:=ho8.ints.open
     obtain⟨l8,hl8⟩:∃ l,(ownL L 1 i ++ [(1:Int)]).length=l:=⟨_,rfl⟩
     rw[hl8] at ho8 hs6
     try rw[hl8]
     clear hl8
     have HE6:=Lib.hid (HE5.out.app HO5.out (Nat.le_refl _) hg6)
     have HO7b:=Lib.hid (((HO7.out.alloc (.cells #[.int .i64 (1)] 3)).kept hg6 (dis_ne2 HDs.out)).alloc (.cells #[.int .i64 (i:Int)] 3))
     have HD6:Hid (∀ k,(Value.slice a8 l8 c8).ownBlock=some k→(Value.slice a7 l7 c7).ownBlock≠some k):=Lib.hid fun k h1 h2=>by
      rcases hs6 k h1 with h|h
      ·exact HDs.out k h h2
      ·have:=(HO7.out.lt k h2).2
       try simp at h
       omega
     have HO8:=Lib.hid (ho8.alloc (.cells #[.int .i64 (i:Int)] 3))
     have HE7:=Lib.hid (HE6.out.alloc (.cells #[.int .i64 (i:Int)] 3))
     have hz6:w.heap.size≤w6.heap.size:=by have:=hg6.size;simp at this;omega
     clear ho8 hg6 hs6
     go_wp2_with (at_builtin;refine wpList_app_int (R:=R) (B:=w.heap.size) rfl _ _ rfl HO7b.out rfl ⟨w6.heap.size,0,none⟩ 1 (i:Int) rfl ?b1 ?b2 ?b3 ?b4 ?_)
     case b1=>simp
     case b2=>exact HB7.out
     case b3=>first|omega|(simp;omega)
     case b4=>exact fun q hq=>HE7.out.inv.none_of_ge (by simp at hq ⊢;omega)
     intro v9 w8 ho9 hg8 hs8
     obtain⟨a9,c9,rfl,_⟩:=ho9.ints.open
     obtain⟨l9,hl9⟩:∃ l,(atL L 1 i ++ [(i:Int)]).length=l:=⟨_,rfl⟩
     rw[hl9] at ho9 hs8
     try rw[hl9]
     clear hl9
     have HE8:=Lib.hid (HE7.out.app HO7b.out (Nat.le_refl _) hg8)
     have HO10:=Lib.hid (HO8.out.kept hg8 (dis_ne2 fun k h1 h2=>HD6.out k h2 h1))
     have HD8:Hid (∀ k,(Value.slice a8 l8 c8).ownBlock=some k→(Value.slice a9 l9 c9).ownBlock≠some k):=Lib.hid fun k h1 h2=>by
      rcases hs8 k h2 with h|h
      ·exact HD6.out k h1 h
      ·have:=(HO8.out.lt k h1).2
       simp at h this
       omega
     have HO9:=Lib.hid ho9
     clear ho9 hg8 hs8
     go_wp2_with fail
     go_roundg (n-(i+1))
     case measure=>omega
     case rel=>exact⟨i+1,_,_,_,_,_,_,by omega,by omega,by go_num,rfl,rfl,HE8.out,by rw[(HY.out (by decide)).1];exact HO10.out,by rw[(HY.out (by decide)).2];exact HO9.out,HD8.out⟩
    ·subst hs0
     have HE5:=Lib.hid (HE.out.alloc (.cells #[.int .i64 (0)] 3))
     have HO5:=Lib.hid (HO6.out.alloc (.cells #[.int .i64 (0)] 3))
     go_wp2_with (at_builtin;refine wpList_app_int (R:=R) (B:=w.heap.size) rfl _ _ rfl HO5.out rfl ⟨wr.heap.size,0,none⟩ 1 (0) rfl ?a1 ?a2 ?a3 ?a4 ?_)
     case a1=>simp
     case a2=>exact HB6.out
     case a3=>first|omega|(simp;omega)
     case a4=>exact fun q hq=>HE5.out.inv.none_of_ge (by simp at hq ⊢;omega)
     intro v8 w6 ho8 hg6 hs6
     obtain⟨a8,c8,rfl,_⟩:=ho8.ints.open
     obtain⟨l8,hl8⟩:∃ l,(ownL L 1 i ++ [(0:Int)]).length=l:=⟨_,rfl⟩
     rw[hl8] at ho8 hs6
     try rw[hl8]
     clear hl8
     have HE6:=Lib.hid (HE5.out.app HO5.out (Nat.le_refl _) hg6)
     have HO7b:=Lib.hid (((HO7.out.alloc (.cells #[.int .i64 (0)] 3)).kept hg6 (dis_ne2 HDs.out)).alloc (.cells #[.int .i64 (i:Int)] 3))
     have HD6:Hid (∀ k,(Value.slice a8 l8 c8).ownBlock=some k→(Value.slice a7 l7 c7).ownBlock≠some k):=Lib.hid fun k h1 h2=>by
      rcases hs6 k h1 with h|h
      ·exact HDs.out k h h2
      ·have:=(HO7.out.lt k h2).2
       try simp at h
       omega
     have HO8:=Lib.hid (ho8.alloc (.cells #[.int .i64 (i:Int)] 3))
     have HE7:=Lib.hid (HE6.out.alloc (.cells #[.int .i64 (i:Int)] 3))
     have hz6:w.heap.size≤w6.heap.size:=by have:=hg6.size;simp at this;omega
     clear ho8 hg6 hs6
     go_wp2_with (at_builtin;refine wpList_app_int (R:=R) (B:=w.heap.size) rfl _ _ rfl HO7b.out rfl ⟨w6.heap.size,0,none⟩ 1 (i:Int) rfl ?b1 ?b2 ?b3 ?b4 ?_)
     case b1=>simp
     case b2=>exact HB7.out
     case b3=>first|omega|(simp;omega)
     case b4=>exact fun q hq=>HE7.out.inv.none_of_ge (by simp at hq ⊢;omega)
     intro v9 w8 ho9 hg8 hs8
     obtain⟨a9,c9,rfl,_⟩:=ho9.ints.open
     obtain⟨l9,hl9⟩:∃ l,(atL L 1 i ++ [(i:Int)]).length=l:=⟨_,rfl⟩
     rw[hl9] at ho9 hs8
     try rw[hl9]
     clear hl9
     have HE8:=Lib.hid (HE7.out.app HO7b.out (Nat.le_refl _) hg8)
     have HO10:=Lib.hid (HO8.out.kept hg8 (dis_ne2 fun k h1 h2=>HD6.out k h2 h1))
     have HD8:Hid (∀ k,(Value.slice a8 l8 c8).ownBlock=some k→(Value.slice a9 l9 c9).ownBlock≠some k):=Lib.hid fun k h1 h2=>by
      rcases hs8 k h2 with h|h
      ·exact HD6.out k h1 h
      ·have:=(HO8.out.lt k h1).2
       simp at h this
       omega
     have HO9:=Lib.hid ho9
     clear ho9 hg8 hs8
     go_wp2_with fail
     go_roundg (n-(i+1))
     case measure=>omega
     case rel=>exact⟨i+1,_,_,_,_,_,_,by omega,by omega,by go_num,rfl,rfl,HE8.out,by rw[(HY.out (by decide)).1];exact HO10.out,by rw[(HY.out (by decide)).2];exact HO9.out,HD8.out⟩
  ·obtain rfl:i=n:=by omega
   have h6:=HO6.out.ints.length_eq
   have h7:=HO7.out.ints.length_eq
   subst h6
   subst h7
   go_wp2_with fail
   go_ret2
   exact⟨_,_,_,_,rfl,HE.out,HO6.out,HO7.out⟩
end
end Go.Proofs.YtgphnkkdmlohlaaGreatDoor
