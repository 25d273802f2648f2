/- the references of layer 6: Mate, Phi, Vertices, Borders. -/
import Derived.Test.YtgphnkkdmlohlaaZShellRights08
import Derived.Test.YtgphnkkdmlohlaaZShellRights09
import Derived.Deep.RegionLaw
namespace Go.Proofs.Ytgphnkkdmlohlaa
section
open Go.RowKit
set_option linter.unusedVariables false
theorem step_app_int {ops:Array Oper} {o:Oper} {a:Act} {w:World} {K:Act→World→Prop} {Q:Exit→Act→World→Prop} {E:Prop} (hgd:o.guard=none) (s x:Operand)
  (ho:o.op=.call { callee:=.builtin .append,args:=#[s,x],argTypes:=#[24,24] })
  {R:Reg} {B:Nat} {v:Value} {xs:List Int} (hown:OwnI R B 3 w v xs) (hs:a.eval s=v) (ad:Addr) (c:Nat) (y:Int) (hx:a.eval x=.slice (some ad) 1 c)
  (hc:w.cell? ad=some (.int .i64 y)) (hn:xs.length≤8388607) (hB:B≤w.heap.size) (hR:∀ k,w.heap.size≤k→R k=none)
  (h:∀ v' w',OwnI R B 3 w' v' (xs ++ [y])→w.grownBy w' v.ownBlock→(∀ k,v'.ownBlock=some k→v.ownBlock=some k∨w.heap.size≤k)→K (a.put o.dst v') w'):
  if Region.wanted o (yielded ops a.tmps)=true then Oper.wp Try.prog o a w K Q else E:=by
 have hw:Region.wanted o (yielded ops a.tmps)=true:=by simp[Region.wanted,hgd]
 rw[if_pos hw]
 obtain⟨i0,hi,hz0,hz1,hz2⟩:=info_parts int_info
 obtain⟨v',w',hr,h2,h3,h4⟩:=run_append_where (P:=Try.prog) w B 24 o.type 3 i0 (.int .i64 0) 1 8 Try.underlying24 hi hz0 hz1 hz2 rfl (by decide) v xs.length _ hown.1 ad 1 c [.int .i64 y]
  rfl
  (by
   intro j u hj
   match j,hj with
   | 0,hj=>
    simp only[List.getElem?_cons_zero,Option.some.injEq] at hj
    subst hj
    obtain⟨b,off,sp⟩:=ad
    simpa [Addr.add] using hc)
  (by
   intro u hu
   simp only[List.mem_singleton] at hu
   subst hu
   rfl) (by unfold maxLen;omega) (by omega) hB
 unfold Oper.wp execOp
 simp only[ho,resolve,invoke,builtin,Sem.run_bind,Sem.run_pure,Result.andThen_ok,List.map_toArray,List.map_cons,List.map_nil,hs,hx,hr]
 refine h v' w' ⟨?_,?_⟩ h3 h4
 ·simpa using h2
 ·intro k hk
  rcases h4 k hk with e|e
  ·exact hown.2 k e
  ·exact hR k e
theorem rmate_any (w:World) (i:Nat) (hi:i≤4194304):
  Calls Try.prog 30 #[.int .i64 (i:Int)] w fun e w'=>e=.returned (.int .i64 ((i ^^^ 1:Nat):Int))∧w=w':=by
 have hx:=xor_one i
 by_cases h:i % 2=0
 ·rw[if_pos h] at hx
  have HX:=Lib.hid hx
  have h':((i:Int) % 2 == 0)=true:=by rw[beq_iff_eq];omega
  clear hx h
  go_enter Try.func30,Try.ntmps30
  go_wp2
  go_ret
  exact⟨ret_int (by rw[HX.out];omega),rfl⟩
 ·rw[if_neg h] at hx
  have HX:=Lib.hid hx
  have h':((i:Int) % 2 == 0)=false:=by rw[beq_eq_false_iff_ne];omega
  have h1:1≤i:=by omega
  clear hx h
  go_enter Try.func30,Try.ntmps30
  go_wp2
  go_ret
  exact⟨ret_int (by rw[HX.out];omega),rfl⟩
def refV (v:Value) (root lone:Int):Value:=.agg #[v,.int .i64 root,.int .i64 lone]
theorem phiL_take_succ {s:List Nat} {k:Nat} (hk:k<s.length):(phiL s).take (k+1)=(phiL s).take k ++ [at' s (k ^^^ 1)]:=by
 rw[List.take_succ_eq_append_getElem (by rw[phiL_length];exact hk)]
 simp[phiL]
set_option maxRecDepth 100000 in
set_option maxHeartbeats 2000000 in
theorem rphi_any (R:Reg) (w:World) (hI:Inv R w) (v:Value) (s:List Nat) (root lone:Int) (hv:FreeI R w v (toI s)) (hn:s.length≤4194304) (he:s.length % 2=0):
  Calls Try.prog 34 #[refV v root lone] w (RetOwn R w (toI (phiL s))):=by
 obtain⟨a0,cap0,rfl,hv⟩:=hv.open
 rw[toI_length] at hv ⊢
 obtain⟨n,hl⟩:∃ n,s.length=n:=⟨_,rfl⟩
 have HL:=Lib.hid hl
 rw[hl] at hn he hv ⊢
 have HI:=Lib.hid hI
 have HV:=Lib.hid hv
 have hM:=rmate_any
 have HMT:=Lib.hid hM
 clear hI hl hv hM
 unfold refV
 go_enter Try.func34,Try.ntmps34
 go_wp2_with fail
 have c0:∀ wr:World,Ev R (w.alloc (.cells #[.slice a0 n cap0,.int .i64 root,.int .i64 lone] 27)) R wr→wr.cell? ⟨w.heap.size,0,none⟩=some (.slice a0 n cap0):=fun wr h=>by
  rw[h.cell (by simp) (HI.out.none_of_ge (Nat.le_refl _))]
  simp
 have HC0:=Lib.hid c0
 clear c0
 go_loopg [3,8] n (fun g v3 v8 wr=>∃ k:Nat,k≤n∧n-k≤g∧v8=.int .i64 (k:Int)∧Ev R (w.alloc (.cells #[.slice a0 n cap0,.int .i64 root,.int .i64 lone] 27)) R wr∧OwnI R (w.heap.size+1) 3 wr v3 (toI ((phiL s).take k)))
 case atStart=>exact⟨0,Nat.zero_le _,by omega,rfl,Ev.refl (HI.out.alloc _),OwnI.nil R _ _ _⟩
 case round=>
  obtain⟨k,hk,hg,rfl,he1,ho⟩:=hrel
  have HE:=Lib.hid he1
  have HO:=Lib.hid ho
  clear he1 ho
  by_cases hkn:k<n
  ·have c0:=HC0.out wr HE.out
   have hx1:=xor_one_lt he hkn
   obtain⟨b',off,e1,hc⟩:=(HV.out.ev (((Ev.refl HI.out).alloc _).trans HE.out)).at (i:=k ^^^ 1) (by rw[HL.out];exact hx1)
   subst e1
   obtain⟨j,hj⟩:∃ j,k ^^^ 1=j:=⟨_,rfl⟩
   rw[hj] at hx1 hc
   have hM:=HMT.out wr.drew k (by omega)
   rw[hj] at hM
   have HMK:=Lib.hid hM
   have HJ:=Lib.hid hj
   have hwz:w.heap.size+1≤wr.heap.size:=by have:=HE.out.size;simpa using this
   have hlt:=lt_of_cell hc
   have hlt0:=lt_of_cell c0
   have HX4:=Lib.hid (show (toI ((phiL s).take k)).length≤8388607 by rw[toI_length,List.length_take,phiL_length,HL.out];omega)
   have HX5:=Lib.hid (show w.heap.size+1≤((wr.alloc (.cells #[.int .i64 ((at' s j:Nat):Int)] 3)).drew).heap.size by simp;omega)
   have HX6:=Lib.hid (show ∀ q,((wr.alloc (.cells #[.int .i64 ((at' s j:Nat):Int)] 3)).drew).heap.size≤q→R q=none from fun q hq=>HE.out.inv.none_of_ge (by simp at hq;omega))
   clear hM hj
   go_wp2_with fail
   go_region_law (first|(refine step_app_int rfl (.tmp 11) (.tmp 18) rfl (HO.out.alloc _).drew ?h1 ⟨wr.heap.size,0,none⟩ 1 ((at' s j:Nat):Int) ?h2 ?h3 ?h4 ?h5 ?h6 ?_;(case h1=>simp[Act.eval]);(case h2=>simp[Act.eval]);(case h3=>simp);(case h4=>exact HX4.out);(case h5=>exact HX5.out);(case h6=>exact HX6.out);intro v' w2 ho2 hg2 hs2)|(go_simp;go_at_call 30;refine HMK.out.mono ?_;rintro e w' ⟨rfl,rfl⟩))
   all_goals
    have he2:=(HE.out.alloc (.cells #[.int .i64 ((at' s j:Nat):Int)] 3)).drew.app (HO.out.alloc _).drew (by simp) hg2
    have HE2:=Lib.hid he2
    have HO2:=Lib.hid ho2
    clear he2 ho2 hg2 hs2
    go_wp2_with fail
    go_roundg (n-(k+1))
    case measure=>omega
    case rel=>exact⟨k+1,by omega,by omega,by go_num,HE2.out,by rw[phiL_take_succ (by rw[HL.out];exact hkn),toI_append,HJ.out];exact HO2.out⟩
  ·obtain rfl:k=n:=by omega
   go_wp2_with fail
   go_ret
   refine⟨_,rfl,((Ev.refl HI.out).alloc _).trans HE.out,?_⟩
   have:=HO.out
   rw[List.take_of_length_le (by rw[phiL_length,HL.out];exact Nat.le_refl _)] at this
   exact this.mono (by omega)
set_option maxRecDepth 100000 in
set_option maxHeartbeats 1000000 in
theorem rvertices_any (R:Reg) (w:World) (hI:Inv R w) (v:Value) (s:List Nat) (root lone:Int) (hv:FreeI R w v (toI s)) (hS:IsPerm s) (hn:s.length≤4194304) (hl0:0≤lone) (hl1:lone≤65536):
  Calls Try.prog 26 #[refV v root lone] w (RetE R w (.int .i64 ((sizesL s).length+lone))):=by
 obtain⟨a0,cap0,rfl,hv⟩:=hv.open
 have hsz:=sizesL_le hS
 obtain⟨k,hk⟩:∃ k,(sizesL s).length=k:=⟨_,rfl⟩
 have hw:IntKind.i64.wrap ((k:Int)+lone)=(k:Int)+lone:=IntWalk.i64_in _ (by omega)
 have he0:Ev R w R ((w.alloc (.cells #[.slice a0 (toI s).length cap0,.int .i64 root,.int .i64 lone] 27)).drew):=((Ev.refl hI).alloc _).drew
 have hc:=rcount_any R _ he0.inv _ s (hv.ev he0) hS hn
 rw[hk] at hc hsz ⊢
 have HC:=Lib.hid hc
 have HE0:=Lib.hid he0
 have hcell:∀ w',Ev R ((w.alloc (.cells #[.slice a0 (toI s).length cap0,.int .i64 root,.int .i64 lone] 27)).drew) R w'→w'.cell? ⟨w.heap.size,2,none⟩=some (.int .i64 lone):=fun w' h=>by
  rw[h.cell (by simp) (hI.none_of_ge (Nat.le_refl _))]
  simp
 have HCL:=Lib.hid hcell
 clear hI hv hS hc he0 hcell hk
 unfold refV
 go_enter Try.func26,Try.ntmps26
 go_wp2_with fail
 go_region_with (go_at_call 52;refine HC.out.mono ?_;rintro e w' ⟨rfl,he⟩;have c2:=HCL.out w' he;have HE:=Lib.hid he;clear he)
 all_goals go_wp2_with fail
 all_goals go_ret
 all_goals exact⟨rfl,HE0.out.trans HE.out⟩
end
section
open Go.RowKit
set_option linter.unusedVariables false
theorem step_app_two {ops:Array Oper} {o:Oper} {a:Act} {w:World} {K:Act→World→Prop} {Q:Exit→Act→World→Prop} {E:Prop} (hgd:o.guard=none) (s x:Operand)
  (ho:o.op=.call { callee:=.builtin .append,args:=#[s,x],argTypes:=#[24,24] })
  {R:Reg} {B:Nat} {v:Value} {xs:List Int} (hown:OwnI R B 3 w v xs) (hs:a.eval s=v) (b:Nat) (c:Nat) (y z:Int) (hx:a.eval x=.slice (some ⟨b,0,none⟩) 2 c)
  (hc:w.cell? ⟨b,0,none⟩=some (.int .i64 y)) (hc2:w.cell? ⟨b,1,none⟩=some (.int .i64 z)) (hn:xs.length≤8388606) (hB:B≤w.heap.size) (hR:∀ k,w.heap.size≤k→R k=none)
  (h:∀ v' w',OwnI R B 3 w' v' (xs ++ [y,z])→w.grownBy w' v.ownBlock→(∀ k,v'.ownBlock=some k→v.ownBlock=some k∨w.heap.size≤k)→K (a.put o.dst v') w'):
  if Region.wanted o (yielded ops a.tmps)=true then Oper.wp Try.prog o a w K Q else E:=by
 have hw:Region.wanted o (yielded ops a.tmps)=true:=by simp[Region.wanted,hgd]
 rw[if_pos hw]
 obtain⟨i0,hi,hz0,hz1,hz2⟩:=info_parts int_info
 obtain⟨v',w',hr,h2,h3,h4⟩:=run_append_where (P:=Try.prog) w B 24 o.type 3 i0 (.int .i64 0) 1 8 Try.underlying24 hi hz0 hz1 hz2 rfl (by decide) v xs.length _ hown.1 ⟨b,0,none⟩ 2 c [.int .i64 y,.int .i64 z]
  rfl
  (by
   intro j u hj
   match j,hj with
   | 0,hj=>
    simp only[List.getElem?_cons_zero,Option.some.injEq] at hj
    subst hj
    simpa [Addr.add] using hc
   | 1,hj=>
    simp only[List.getElem?_cons_succ,List.getElem?_cons_zero,Option.some.injEq] at hj
    subst hj
    simpa [Addr.add] using hc2)
  (by
   intro u hu
   simp only[List.mem_cons,List.not_mem_nil,or_false] at hu
   rcases hu with rfl|rfl <;> rfl) (by unfold maxLen;omega) (by omega) hB
 unfold Oper.wp execOp
 simp only[ho,resolve,invoke,builtin,Sem.run_bind,Sem.run_pure,Result.andThen_ok,List.map_toArray,List.map_cons,List.map_nil,hs,hx,hr]
 refine h v' w' ⟨?_,?_⟩ h3 h4
 ·simpa using h2
 ·intro k hk
  rcases h4 k hk with h5|h5
  ·exact hown.2 k h5
  ·exact hR k h5
end
end Go.Proofs.Ytgphnkkdmlohlaa
