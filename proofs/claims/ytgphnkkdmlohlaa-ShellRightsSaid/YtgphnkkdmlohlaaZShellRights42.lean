/- parquetryref14.Right: the document's words for a shelling order. Conditions: a triangulation, and the lists lie in memory. -/
import Derived.Test.YtgphnkkdmlohlaaZShellRights41
import Derived.Test.YtgphnkkdmlohlaaZShellRights08
import Derived.Test.YtgphnkkdmlohlaaZShellRights15
namespace Go.Proofs.Ytgphnkkdmlohlaa
open Go.RowKit
set_option linter.unusedVariables false
set_option linter.unusedSimpArgs false
theorem plR_lt (xs:List Int) (V:Nat):∀ i,∀ k:Nat,k<V→nth (plR xs V i) k<(i:Int)
 | 0,k,hk=>by
  show nth (List.replicate V (-1)) k<0
  rw[nth_at (by simpa using hk)]
  simp
 | i+1,k,hk=>by
  show nth ((plR xs V i).set (nth xs i).toNat (i:Int)) k<((i+1:Nat):Int)
  have ih:=plR_lt xs V i k hk
  by_cases h:(nth xs i).toNat<V
  ·rw[nth_set (by rw[plR_length];exact h)]
   split <;> omega
  ·rw[List.set_eq_of_length_le (by rw[plR_length];omega)]
   omega
theorem first_dart {s:List Nat} (h:TriS s) {v:Nat} (hv:v<(sizesL s).length):∃ d,d<s.length∧nth (namesL s) d=(v:Int)∧∀ d',d' < d→nth (namesL s) d'≠(v:Int):=by
 obtain⟨x,hx,e⟩:=h.named hv
 obtain⟨d,h1,h2,h3⟩:=least_nat (p:=fun d=>d<s.length∧nth (namesL s) d=(v:Int)) x ⟨hx,e⟩
 exact⟨d,h2.1,h2.2,fun d' hd' k=>h3 d' hd' ⟨by omega,k⟩⟩
theorem one_cellT (w:World) (u:Value) (T:TypeId):∀ j x,[u][j]?=some x→(w.alloc (.cells #[u] T)).cell? ((⟨w.heap.size,0,none⟩:Addr).add j)=some x:=by
 intro j x hj
 match j,hj with
 | 0,hj=>
  simp only[List.getElem?_cons_zero,Option.some.injEq] at hj
  subst hj
  simp[Addr.add]
def bvs (F:Nat→Bool) (T:List Nat):List Value:=T.map fun x=>.bool (F x)
theorem bvs_take {F:Nat→Bool} {T:List Nat} {i:Nat} (hi:i<T.length):bvs F (T.take (i+1))=bvs F (T.take i) ++ [.bool (F (T[i]))]:=by
 unfold bvs
 rw[List.take_add_one,List.getElem?_eq_getElem hi,List.map_append]
 rfl
set_option maxRecDepth 100000 in
set_option maxHeartbeats 6000000 in
theorem r14right_any (R:Reg) (w:World) (hI:Inv R w) (v:Value) (s:List Nat) (r:Nat) (hv:FreeI R w v (toI s)) (h:TriS s) (hn:s.length≤131073) (hr:r<s.length) (a1:Option Addr) (n1 c1:Nat) (xs:List Int) (hx:FreeI R w (.slice a1 n1 c1) xs) (hl:xs.length=n1) (hn1:n1≤1000000):
  Calls Try.prog 10 #[refV v (r:Int) 0,.slice a1 n1 c1] w (RetRight R w (RightP s r xs)):=by
 obtain⟨a0,c0,rfl,hv2⟩:=hv.open
 clear hv
 have hv:=hv2
 clear hv2
 rw[toI_length] at hv ⊢
 unfold refV
 have he1:Ev R w R (w.alloc (.cells #[.slice a0 s.length c0,.int .i64 (r:Int),.int .i64 0] 27)):=(Ev.refl hI).alloc _
 have HX:=Lib.hid (fun R' w' (h:Ev R (w.alloc (.cells #[.slice a0 s.length c0,.int .i64 (r:Int),.int .i64 0] 27)) R' w')=>h.ref3 (hI.none_of_ge (Nat.le_refl _)))
 have HVt:=Lib.hid (fun w' (hee:Ev R w R w')=>rvertices_any R w' hee.inv _ s (r:Int) 0 (hv.ev hee) h.perm (by omega) (by omega) (by omega))
 have HCo:=Lib.hid (fun w' (hee:Ev R w R w')=>r14corners_any R w' hee.inv _ s r 0 (hv.ev hee) h.perm h.even (by omega) hr)
 have HNm:=Lib.hid (fun w' (hee:Ev R w R w')=>rnames_any R w' hee.inv _ s (hv.ev hee) h.perm (by omega))
 have HOr:=Lib.hid (fun w' (hee:Ev R w R w') (d:Nat) (hd:d<s.length)=>rorbit_any R w' hee.inv _ s (hv.ev hee) h.perm (by omega) d hd)
 unfold refV at HVt HCo
 obtain⟨V,hV⟩:∃ V,(sizesL s).length=V:=⟨_,rfl⟩
 rw[hV,Int.add_zero] at HVt
 have hVn:V≤131073:=by have:=sizesL_le h.perm;omega
 have hV3:3≤V:=by rw[←hV];exact h.big
 have HMt:=Lib.hid (fun w' (i:Nat) (hi:i<s.length)=>rmate_any w' i (by omega))
 obtain⟨e0,he0⟩:∃ c0,nth (namesL s) r=c0:=⟨_,rfl⟩
 obtain⟨e1,he1'⟩:∃ c0,nth (namesL s) (at' (phiL s) r)=c0:=⟨_,rfl⟩
 obtain⟨e2,he2⟩:∃ c0,nth (namesL s) (at' (phiL s) (at' (phiL s) r))=c0:=⟨_,rfl⟩
 unfold cor3 at HCo
 unfold RightP
 rw[he0,he1',he2] at HCo ⊢
 rw[hV]
 have HT:=Lib.hid h
 have HXs:=Lib.hid hx
 have HXl:=Lib.hid hl
 have HVe:=Lib.hid hV
 have HE1:=Lib.hid he1
 have HI:=Lib.hid hI
 obtain⟨N,hN⟩:∃ N,s.length=N:=⟨_,rfl⟩
 have HN:=Lib.hid hN
 rw[hN] at hn HX HVt HCo HNm HOr HMt HE1 ⊢
 clear hI hv h he1 hr hx hl he0 he1' he2 hV hN
 go_enter Try.func10,Try.ntmps10
 go_wp2_with fail
 obtain⟨x0,x1,x2⟩:=HX.out _ _ (Ev.refl HE1.out.inv)
 go_wp2_with fail
 refine (HVt.out _ HE1.out).mono ?_
 rintro e w2 ⟨rfl,he2⟩
 have HE2:=Lib.hid he2
 clear he2 x0 x1 x2
 by_cases hk:n1=V
 case neg=>
  have hb:((n1:Int) != (V:Int))=true:=by simp;omega
  have HK:=Lib.hid hk
  go_wp2_with fail
  go_ret
  exact⟨false,R,rfl,⟨fun q=>absurd q (by decide),fun q=>absurd (by rw[←HXl.out];exact q.1) HK.out⟩,HE1.out.trans HE2.out⟩
 have hk':V=n1:=hk.symm
 clear hk
 subst hk'
 have hb:((V:Int) != (V:Int))=false:=by simp
 obtain⟨i0,hi,hz0,hz1,hz2⟩:=info_parts int_info
 go_wp2_with (refine wpList_make_full _ rfl _ _ 24 rfl w2.heap.size 3 i0 (.int .i64 0) 1 Try.underlying24 hi hz0 hz1 .i64 .i64 (V:Int) (V:Int) V rfl rfl rfl rfl ?q1 ?q2 (Nat.le_refl _) ?_)
 case q1=>rw[hz2];omega
 case q2=>unfold maxLen;omega
 intro w5 ho5 hg5
 have hos:=OwnI.made HE2.out.inv ho5
 have he5:=(Ev.refl HE2.out.inv).grown hg5 (by simp)
 have HE5:=Lib.hid (HE2.out.trans he5)
 have HO5:=Lib.hid (hos.mono (show w.heap.size+1≤w2.heap.size by have:=HE2.out.size;simp at this;omega))
 obtain⟨gp,hgp⟩:∃ x,w2.heap.size=x:=⟨_,rfl⟩
 rw[hgp] at HO5 ⊢
 clear ho5 hg5 hos he5 HE2 hgp hb
 go_wp2_with fail
 go_loopg [32] V (fun g v32 wq=>∃ (i:Nat) (Q:List Int),i≤V∧V-i≤g∧v32=.int .i64 (i:Int)∧Ev R (w.alloc (.cells #[.slice a0 N c0,.int .i64 (r:Int),.int .i64 0] 27)) R wq∧OwnI R (w.heap.size+1) 3 wq (.slice (some ⟨gp,0,none⟩) V V) Q∧Q.length=V∧∀ j,j<i→nth Q j=-1)
 case atStart=>exact⟨0,_,Nat.zero_le _,by omega,rfl,HE5.out,HO5.out,by simp,fun j hj=>absurd hj (Nat.not_lt_zero _)⟩
 case round=>
  obtain⟨i,Q,hin,hg,rfl,he,ho,hQl,hQ⟩:=hrel
  as_aux_lemma=>
   have HE:=Lib.hid he
   have HO:=Lib.hid ho
   have HQ:=Lib.hid hQ
   clear he ho hQ HE5 HO5
   by_cases hil:i<V
   ·obtain⟨gq,e,hgw,hgn,hc,hz⟩:=HO.out.headAt hQl hil
    cases e
    have hst:=HO.out.put hQl i hil (-1)
    have HST:=Lib.hid hst
    have HGw:Hid (w.heap.size+1≤gp):=Lib.hid hgw
    clear hst
    go_wp2_with fail
    go_roundg (V-(i+1))
    case measure=>omega
    case rel=>exact⟨i+1,_,by omega,by omega,by go_num,HE.out.setCell (p:=⟨gp,i,none⟩) (by have:=HGw.out;simp;omega) hgn _,HST.out,by simpa using hQl,fun j hj=>by
     rw[nth_set (by rw[hQl];exact hil)]
     by_cases e:i=j
     ·rw[if_pos e]
     ·rw[if_neg e];exact HQ.out j (by omega)⟩
   ·obtain rfl:V=i:=by omega
    have hQe:Q=plR xs V 0:=by
     show Q=List.replicate V (-1)
     refine List.ext_getElem (by simp[hQl]) fun j h1 h2=>?_
     rw[←nth_at h1,HQ.out j (by omega)]
     simp
    subst hQe
    have HO0:=Lib.hid HO.out
    clear HQ
    go_wp2_with fail
    go_loopg [41] V (fun g v41 wq=>∃ (i:Nat),i≤V∧V-i≤g∧v41=.int .i64 (i:Int)∧Ev R (w.alloc (.cells #[.slice a0 N c0,.int .i64 (r:Int),.int .i64 0] 27)) R wq∧OwnI R (w.heap.size+1) 3 wq (.slice (some ⟨gp,0,none⟩) V V) (plR xs V i)∧∀ j,j<i→NewR xs V j)
    case atStart=>exact⟨0,Nat.zero_le _,by omega,rfl,HE.out,HO0.out,fun j hj=>absurd hj (Nat.not_lt_zero _)⟩
    case round=>
     obtain⟨i,hin,hg,rfl,he,ho,hall⟩:=hrel
     as_aux_lemma=>
      have HE:=Lib.hid he
      have HO:=Lib.hid ho
      have HAl:=Lib.hid hall
      clear he ho hall HO0
      by_cases hil:i<V
      ·obtain⟨gl,ol,rfl,hcl⟩:=HXs.out.later (i:=i) (by rw[HXl.out];exact hil)
       have z0:=hcl _ _ (HE1.out.trans HE.out)
       obtain⟨y,hy⟩:∃ y,nth xs i=y:=⟨_,rfl⟩
       rw[hy] at z0
       have HY:=Lib.hid hy
       clear hcl hy
       by_cases hy0:y<0
       ·have HNo:Hid (¬ NewR xs V i):=Lib.hid fun q=>by have:=q.1;rw[HY.out] at this;omega
        have hb:decide (y<0)=true:=decide_eq_true hy0
        go_wp2_with fail
        go_ret
        exact⟨false,R,rfl,⟨fun q=>absurd q (by decide),fun q=>absurd (q.2.2.2.2.1 i hil) HNo.out⟩,HE1.out.trans HE.out⟩
       ·have hb:decide (y<0)=false:=decide_eq_false hy0
        by_cases hyn:(V:Int)≤y
        ·have HNo:Hid (¬ NewR xs V i):=Lib.hid fun q=>by have:=q.2.1;rw[HY.out] at this;omega
         have hb2:decide ((V:Int)≤y)=true:=decide_eq_true hyn
         go_wp2_with fail
         go_ret
         exact⟨false,R,rfl,⟨fun q=>absurd q (by decide),fun q=>absurd (q.2.2.2.2.1 i hil) HNo.out⟩,HE1.out.trans HE.out⟩
        ·obtain⟨k,rfl⟩:∃ k:Nat,y=(k:Int):=⟨y.toNat,by omega⟩
         have hkn:k<V:=by omega
         obtain⟨gq,e,-,hgn,hc,hz⟩:=HO.out.headAt (plR_length xs V i) hkn
         cases e
         obtain⟨z,hze⟩:∃ z,nth (plR xs V i) k=z:=⟨_,rfl⟩
         rw[hze] at hc
         have HZe:=Lib.hid hze
         have hb2:¬ ((V:Int)≤(k:Int)):=hyn
         have hb3:¬ (V≤k):=by omega
         clear hze hyn hy0 hb
         by_cases hz0:0≤z
         ·have HNo:Hid (¬ NewR xs V i):=Lib.hid fun q=>by have:=q.2.2;rw[HY.out,Int.toNat_natCast,HZe.out] at this;omega
          go_wp2_with fail
          go_ret
          exact⟨false,R,rfl,⟨fun q=>absurd q (by decide),fun q=>absurd (q.2.2.2.2.1 i hil) HNo.out⟩,HE1.out.trans HE.out⟩
         ·have HNw:Hid (NewR xs V i):=Lib.hid ⟨by rw[HY.out];omega,by rw[HY.out];omega,by rw[HY.out,Int.toNat_natCast,HZe.out];omega⟩
          have hst:=HO.out.put (plR_length xs V i) k hkn (i:Int)
          have hps:(plR xs V i).set k (i:Int)=plR xs V (i+1):=by show _=(plR xs V i).set (nth xs i).toNat (i:Int);rw[HY.out,Int.toNat_natCast]
          rw[hps] at hst
          have HST:=Lib.hid hst
          have hgw:w.heap.size+1≤gp:=(HO.out.lt gp rfl).1
          clear hst hps
          go_wp2_with fail
          go_roundg (V-(i+1))
          case measure=>omega
          case rel=>exact⟨i+1,by omega,by omega,by go_num,HE.out.setCell (p:=⟨gp,k,none⟩) (by simp;omega) hgn _,HST.out,fun j hj=>by
           rcases (by omega:j<i∨j=i) with q|q
           ·exact HAl.out j q
           ·rw[q];exact HNw.out⟩
      ·obtain rfl:V=i:=by omega
       obtain⟨x0,x1,x2⟩:=HX.out _ _ HE.out
       go_wp2_with fail
       refine (HCo.out _ (HE1.out.trans HE.out)).mono ?_
       rintro e w3 ⟨v3,rfl,he3,ho3⟩
       obtain⟨a3,c3,rfl,-⟩:=ho3.ints.open
       rw[show ([e0,e1,e2]:List Int).length=3 from rfl] at ho3 ⊢
       have HE3:=Lib.hid (HE.out.trans he3)
       have HC3:=Lib.hid ho3
       have HP3:=Lib.hid (HO.out.ev he3)
       clear he3 ho3 x0 x1 x2
       go_wp2_with fail
       obtain⟨gc,rfl,-,-,x0,-⟩:=HC3.out.headAt rfl (i:=0) (by omega)
       obtain⟨_,e,-,-,x1,-⟩:=HC3.out.headAt rfl (i:=1) (by omega)
       cases e
       obtain⟨_,e,-,-,x2,-⟩:=HC3.out.headAt rfl (i:=2) (by omega)
       cases e
       rw[show nth [e0,e1,e2] 0=e0 from rfl] at x0
       rw[show nth [e0,e1,e2] 1=e1 from rfl] at x1
       rw[show nth [e0,e1,e2] 2=e2 from rfl] at x2
       go_cut [93] (fun s93 wx=>∃ (wn:World) (bb:Bool),wn=wx∧s93=.bool bb∧Ev R (w.alloc (.cells #[.slice a0 N c0,.int .i64 (r:Int),.int .i64 0] 27)) R wn∧OwnI R (w.heap.size+1) 3 wn (.slice (some ⟨gp,0,none⟩) V V) (plR xs V V)∧(bb=false↔(nth xs 0=e0∧nth xs 1=e1∧nth xs (V-1)=e2)))
       case first=>
        obtain⟨gl,ol,e,hy0c⟩:=HXs.out.later (i:=0) (by rw[HXl.out];omega)
        subst e
        obtain⟨_,_,e,hy1c⟩:=HXs.out.later (i:=1) (by rw[HXl.out];omega)
        cases e
        obtain⟨_,_,e,hy2c⟩:=HXs.out.later (i:=V-1) (by rw[HXl.out];omega)
        cases e
        obtain⟨y0,hy0e⟩:∃ y,nth xs 0=y:=⟨_,rfl⟩
        obtain⟨y1,hy1e⟩:∃ y,nth xs 1=y:=⟨_,rfl⟩
        obtain⟨y2,hy2e⟩:∃ y,nth xs (V-1)=y:=⟨_,rfl⟩
        have z0:=hy0c _ _ (HE1.out.trans HE3.out).drew
        have z1:=hy1c _ _ (HE1.out.trans HE3.out).drew
        have z2:=hy2c _ _ (HE1.out.trans HE3.out).drew
        rw[hy0e,Nat.add_zero] at z0
        rw[hy1e] at z1
        rw[hy2e] at z2
        have HY:=Lib.hid (⟨hy0e,hy1e,hy2e⟩:nth xs 0=y0∧nth xs 1=y1∧nth xs (V-1)=y2)
        have hw1:IntKind.i64.wrap ((V:Int)-1)=((V-1:Nat):Int):=by rw[show (V:Int)-1=((V-1:Nat):Int) by omega];exact IntWalk.i64_in _ (by omega)
        have hlt0:(0:Int)<(V:Int):=by omega
        have hlt1:(1:Int)<(V:Int):=by omega
        have hlt0':0<V:=by omega
        have hlt1':1<V:=by omega
        have hlt2':V-1<V:=by omega
        clear hy0c hy1c hy2c hy0e hy1e hy2e
        by_cases hy0:y0=e0
        ·by_cases hy1:y1=e1
         ·by_cases hy2:y2=e2
          ·as_aux_lemma=>
            have hb0:(y0 != e0)=false:=by simp[hy0]
            have hb1:(y1 != e1)=false:=by simp[hy1]
            have hb2:(y2 != e2)=false:=by simp[hy2]
            refine wp_region_held_drew (S:=(fun W:World=>W.cell? ⟨gc,0,none⟩=some (.int .i64 e0)∧W.cell? ⟨gc,1,none⟩=some (.int .i64 e1)∧W.cell? ⟨gc,2,none⟩=some (.int .i64 e2)∧W.cell? ⟨gl,ol,none⟩=some (.int .i64 y0)∧W.cell? ⟨gl,ol+1,none⟩=some (.int .i64 y1)∧W.cell? ⟨gl,ol+(V-1),none⟩=some (.int .i64 y2))) (by kernel_rfl) ⟨x0,x1,x2,z0,z1,z2⟩ (fun hHeld=>?_)
            refine tk 0 (v:=?ft1) ?gt1 ?_
            case gt1=>(intro w' ⟨s0,s1,s2,s3,s4,s5⟩;go_simp;try with_reducible rfl)
            try simp only[Act.put,rd]
            refine tk 1 (v:=?ft2) ?gt2 ?_
            case gt2=>(intro w' ⟨s0,s1,s2,s3,s4,s5⟩;go_simp;try with_reducible rfl)
            try simp only[Act.put,rd]
            refine tk 2 (v:=?ft3) ?gt3 ?_
            case gt3=>(intro w' ⟨s0,s1,s2,s3,s4,s5⟩;go_simp;try with_reducible rfl)
            try simp only[Act.put,rd]
            refine tk 3 (v:=?ft4) ?gt4 ?_
            case gt4=>(intro w' ⟨s0,s1,s2,s3,s4,s5⟩;go_simp;try with_reducible rfl)
            try simp only[Act.put,rd]
            refine tk 4 (v:=?ft5) ?gt5 ?_
            case gt5=>(intro w' ⟨s0,s1,s2,s3,s4,s5⟩;go_simp;try with_reducible rfl)
            try simp only[Act.put,rd]
            refine tk 5 (v:=?ft6) ?gt6 ?_
            case gt6=>(intro w' ⟨s0,s1,s2,s3,s4,s5⟩;go_simp;try with_reducible rfl)
            try simp only[Act.put,rd]
            refine tk 6 (v:=(.bool false)) ?gt7 ?_
            case gt7=>(intro w' ⟨s0,s1,s2,s3,s4,s5⟩;go_simp;try with_reducible rfl)
            try simp only[Act.put,rd]
            refine tk 7 (v:=(.bool false)) ?gt8 ?_
            case gt8=>(intro w' ⟨s0,s1,s2,s3,s4,s5⟩;go_simp;try with_reducible rfl)
            try simp only[Act.put,rd]
            refine tk 8 (v:=?ft9) ?gt9 ?_
            case gt9=>(intro w' ⟨s0,s1,s2,s3,s4,s5⟩;go_simp;try with_reducible rfl)
            try simp only[Act.put,rd]
            refine tk 9 (v:=?ft10) ?gt10 ?_
            case gt10=>(intro w' ⟨s0,s1,s2,s3,s4,s5⟩;go_simp;try with_reducible rfl)
            try simp only[Act.put,rd]
            refine tk 10 (v:=?ft11) ?gt11 ?_
            case gt11=>(intro w' ⟨s0,s1,s2,s3,s4,s5⟩;go_simp;try with_reducible rfl)
            try simp only[Act.put,rd]
            refine tk 11 (v:=?ft12) ?gt12 ?_
            case gt12=>(intro w' ⟨s0,s1,s2,s3,s4,s5⟩;go_simp;try with_reducible rfl)
            try simp only[Act.put,rd]
            refine tk 12 (v:=?ft13) ?gt13 ?_
            case gt13=>(intro w' ⟨s0,s1,s2,s3,s4,s5⟩;go_simp;try with_reducible rfl)
            try simp only[Act.put,rd]
            refine tk 13 (v:=?ft14) ?gt14 ?_
            case gt14=>(intro w' ⟨s0,s1,s2,s3,s4,s5⟩;go_simp;try with_reducible rfl)
            try simp only[Act.put,rd]
            refine tk 14 (v:=(.bool false)) ?gt15 ?_
            case gt15=>(intro w' ⟨s0,s1,s2,s3,s4,s5⟩;go_simp;try with_reducible rfl)
            try simp only[Act.put,rd]
            refine tk 15 (v:=(.bool false)) ?gt16 ?_
            case gt16=>(intro w' ⟨s0,s1,s2,s3,s4,s5⟩;go_simp;try with_reducible rfl)
            try simp only[Act.put,rd]
            refine tk 16 (v:=(.bool false)) ?gt17 ?_
            case gt17=>(intro w' ⟨s0,s1,s2,s3,s4,s5⟩;go_simp;try with_reducible rfl)
            try simp only[Act.put,rd]
            refine tk 17 (v:=?ft18) ?gt18 ?_
            case gt18=>(intro w' ⟨s0,s1,s2,s3,s4,s5⟩;go_simp;try with_reducible rfl)
            try simp only[Act.put,rd]
            refine tk 18 (v:=?ft19) ?gt19 ?_
            case gt19=>(intro w' ⟨s0,s1,s2,s3,s4,s5⟩;go_simp;try with_reducible rfl)
            try simp only[Act.put,rd]
            refine tk 19 (v:=?ft20) ?gt20 ?_
            case gt20=>(intro w' ⟨s0,s1,s2,s3,s4,s5⟩;go_simp;try with_reducible rfl)
            try simp only[Act.put,rd]
            refine tk 20 (v:=?ft21) ?gt21 ?_
            case gt21=>(intro w' ⟨s0,s1,s2,s3,s4,s5⟩;go_simp;try with_reducible rfl)
            try simp only[Act.put,rd]
            refine tk 21 (v:=?ft22) ?gt22 ?_
            case gt22=>(intro w' ⟨s0,s1,s2,s3,s4,s5⟩;go_simp;try with_reducible rfl)
            try simp only[Act.put,rd]
            refine tk 22 (v:=?ft23) ?gt23 ?_
            case gt23=>(intro w' ⟨s0,s1,s2,s3,s4,s5⟩;go_simp;try with_reducible rfl)
            try simp only[Act.put,rd]
            refine tk 23 (v:=?ft24) ?gt24 ?_
            case gt24=>(intro w' ⟨s0,s1,s2,s3,s4,s5⟩;go_simp;try with_reducible rfl)
            try simp only[Act.put,rd]
            refine tk 24 (v:=?ft25) ?gt25 ?_
            case gt25=>(intro w' ⟨s0,s1,s2,s3,s4,s5⟩;go_simp;try with_reducible rfl)
            try simp only[Act.put,rd]
            refine tk 25 (v:=(.bool false)) ?gt26 ?_
            case gt26=>(intro w' ⟨s0,s1,s2,s3,s4,s5⟩;go_simp;try with_reducible rfl)
            try simp only[Act.put,rd]
            refine tk 26 (v:=(.bool false)) ?gt27 ?_
            case gt27=>(intro w' ⟨s0,s1,s2,s3,s4,s5⟩;go_simp;try with_reducible rfl)
            try simp only[Act.put,rd]
            refine wpAnyH_done (by kernel_rfl) ?_ _
            go_wp2_with fail
            go_meet
            exact⟨_,false,rfl,rfl,HE3.out.drew,HP3.out.drew,⟨fun _=>⟨by rw[HY.out.1,hy0],by rw[HY.out.2.1,hy1],by rw[HY.out.2.2,hy2]⟩,fun _=>rfl⟩⟩
          ·as_aux_lemma=>
            have HK:=Lib.hid hy2
            have hb0:(y0 != e0)=false:=by simp[hy0]
            have hb1:(y1 != e1)=false:=by simp[hy1]
            have hb2:(y2 != e2)=true:=by simp[HK.out]
            refine wp_region_held_drew (S:=(fun W:World=>W.cell? ⟨gc,0,none⟩=some (.int .i64 e0)∧W.cell? ⟨gc,1,none⟩=some (.int .i64 e1)∧W.cell? ⟨gc,2,none⟩=some (.int .i64 e2)∧W.cell? ⟨gl,ol,none⟩=some (.int .i64 y0)∧W.cell? ⟨gl,ol+1,none⟩=some (.int .i64 y1)∧W.cell? ⟨gl,ol+(V-1),none⟩=some (.int .i64 y2))) (by kernel_rfl) ⟨x0,x1,x2,z0,z1,z2⟩ (fun hHeld=>?_)
            refine tk 0 (v:=?ft28) ?gt28 ?_
            case gt28=>(intro w' ⟨s0,s1,s2,s3,s4,s5⟩;go_simp;try with_reducible rfl)
            try simp only[Act.put,rd]
            refine tk 1 (v:=?ft29) ?gt29 ?_
            case gt29=>(intro w' ⟨s0,s1,s2,s3,s4,s5⟩;go_simp;try with_reducible rfl)
            try simp only[Act.put,rd]
            refine tk 2 (v:=?ft30) ?gt30 ?_
            case gt30=>(intro w' ⟨s0,s1,s2,s3,s4,s5⟩;go_simp;try with_reducible rfl)
            try simp only[Act.put,rd]
            refine tk 3 (v:=?ft31) ?gt31 ?_
            case gt31=>(intro w' ⟨s0,s1,s2,s3,s4,s5⟩;go_simp;try with_reducible rfl)
            try simp only[Act.put,rd]
            refine tk 4 (v:=?ft32) ?gt32 ?_
            case gt32=>(intro w' ⟨s0,s1,s2,s3,s4,s5⟩;go_simp;try with_reducible rfl)
            try simp only[Act.put,rd]
            refine tk 5 (v:=?ft33) ?gt33 ?_
            case gt33=>(intro w' ⟨s0,s1,s2,s3,s4,s5⟩;go_simp;try with_reducible rfl)
            try simp only[Act.put,rd]
            refine tk 6 (v:=(.bool false)) ?gt34 ?_
            case gt34=>(intro w' ⟨s0,s1,s2,s3,s4,s5⟩;go_simp;try with_reducible rfl)
            try simp only[Act.put,rd]
            refine tk 7 (v:=(.bool false)) ?gt35 ?_
            case gt35=>(intro w' ⟨s0,s1,s2,s3,s4,s5⟩;go_simp;try with_reducible rfl)
            try simp only[Act.put,rd]
            refine tk 8 (v:=?ft36) ?gt36 ?_
            case gt36=>(intro w' ⟨s0,s1,s2,s3,s4,s5⟩;go_simp;try with_reducible rfl)
            try simp only[Act.put,rd]
            refine tk 9 (v:=?ft37) ?gt37 ?_
            case gt37=>(intro w' ⟨s0,s1,s2,s3,s4,s5⟩;go_simp;try with_reducible rfl)
            try simp only[Act.put,rd]
            refine tk 10 (v:=?ft38) ?gt38 ?_
            case gt38=>(intro w' ⟨s0,s1,s2,s3,s4,s5⟩;go_simp;try with_reducible rfl)
            try simp only[Act.put,rd]
            refine tk 11 (v:=?ft39) ?gt39 ?_
            case gt39=>(intro w' ⟨s0,s1,s2,s3,s4,s5⟩;go_simp;try with_reducible rfl)
            try simp only[Act.put,rd]
            refine tk 12 (v:=?ft40) ?gt40 ?_
            case gt40=>(intro w' ⟨s0,s1,s2,s3,s4,s5⟩;go_simp;try with_reducible rfl)
            try simp only[Act.put,rd]
            refine tk 13 (v:=?ft41) ?gt41 ?_
            case gt41=>(intro w' ⟨s0,s1,s2,s3,s4,s5⟩;go_simp;try with_reducible rfl)
            try simp only[Act.put,rd]
            refine tk 14 (v:=(.bool false)) ?gt42 ?_
            case gt42=>(intro w' ⟨s0,s1,s2,s3,s4,s5⟩;go_simp;try with_reducible rfl)
            try simp only[Act.put,rd]
            refine tk 15 (v:=(.bool false)) ?gt43 ?_
            case gt43=>(intro w' ⟨s0,s1,s2,s3,s4,s5⟩;go_simp;try with_reducible rfl)
            try simp only[Act.put,rd]
            refine tk 16 (v:=(.bool false)) ?gt44 ?_
            case gt44=>(intro w' ⟨s0,s1,s2,s3,s4,s5⟩;go_simp;try with_reducible rfl)
            try simp only[Act.put,rd]
            refine tk 17 (v:=?ft45) ?gt45 ?_
            case gt45=>(intro w' ⟨s0,s1,s2,s3,s4,s5⟩;go_simp;try with_reducible rfl)
            try simp only[Act.put,rd]
            refine tk 18 (v:=?ft46) ?gt46 ?_
            case gt46=>(intro w' ⟨s0,s1,s2,s3,s4,s5⟩;go_simp;try with_reducible rfl)
            try simp only[Act.put,rd]
            refine tk 19 (v:=?ft47) ?gt47 ?_
            case gt47=>(intro w' ⟨s0,s1,s2,s3,s4,s5⟩;go_simp;try with_reducible rfl)
            try simp only[Act.put,rd]
            refine tk 20 (v:=?ft48) ?gt48 ?_
            case gt48=>(intro w' ⟨s0,s1,s2,s3,s4,s5⟩;go_simp;try with_reducible rfl)
            try simp only[Act.put,rd]
            refine tk 21 (v:=?ft49) ?gt49 ?_
            case gt49=>(intro w' ⟨s0,s1,s2,s3,s4,s5⟩;go_simp;try with_reducible rfl)
            try simp only[Act.put,rd]
            refine tk 22 (v:=?ft50) ?gt50 ?_
            case gt50=>(intro w' ⟨s0,s1,s2,s3,s4,s5⟩;go_simp;try with_reducible rfl)
            try simp only[Act.put,rd]
            refine tk 23 (v:=?ft51) ?gt51 ?_
            case gt51=>(intro w' ⟨s0,s1,s2,s3,s4,s5⟩;go_simp;try with_reducible rfl)
            try simp only[Act.put,rd]
            refine tk 24 (v:=?ft52) ?gt52 ?_
            case gt52=>(intro w' ⟨s0,s1,s2,s3,s4,s5⟩;go_simp;try with_reducible rfl)
            try simp only[Act.put,rd]
            refine tk 25 (v:=(.bool true)) ?gt53 ?_
            case gt53=>(intro w' ⟨s0,s1,s2,s3,s4,s5⟩;go_simp;try with_reducible rfl)
            try simp only[Act.put,rd]
            refine tk 26 (v:=(.bool true)) ?gt54 ?_
            case gt54=>(intro w' ⟨s0,s1,s2,s3,s4,s5⟩;go_simp;try with_reducible rfl)
            try simp only[Act.put,rd]
            refine wpAnyH_done (by kernel_rfl) ?_ _
            go_wp2_with fail
            go_meet
            exact⟨_,true,rfl,rfl,HE3.out.drew,HP3.out.drew,⟨fun q=>absurd q (by decide),fun q=>absurd (HY.out.2.2.symm.trans q.2.2) HK.out⟩⟩
         ·as_aux_lemma=>
           have HK:=Lib.hid hy1
           have hb0:(y0 != e0)=false:=by simp[hy0]
           have hb1:(y1 != e1)=true:=by simp[HK.out]
           refine wp_region_held_drew (S:=(fun W:World=>W.cell? ⟨gc,0,none⟩=some (.int .i64 e0)∧W.cell? ⟨gc,1,none⟩=some (.int .i64 e1)∧W.cell? ⟨gc,2,none⟩=some (.int .i64 e2)∧W.cell? ⟨gl,ol,none⟩=some (.int .i64 y0)∧W.cell? ⟨gl,ol+1,none⟩=some (.int .i64 y1)∧W.cell? ⟨gl,ol+(V-1),none⟩=some (.int .i64 y2))) (by kernel_rfl) ⟨x0,x1,x2,z0,z1,z2⟩ (fun hHeld=>?_)
           refine tk 0 (v:=?ft55) ?gt55 ?_
           case gt55=>(intro w' ⟨s0,s1,s2,s3,s4,s5⟩;go_simp;try with_reducible rfl)
           try simp only[Act.put,rd]
           refine tk 1 (v:=?ft56) ?gt56 ?_
           case gt56=>(intro w' ⟨s0,s1,s2,s3,s4,s5⟩;go_simp;try with_reducible rfl)
           try simp only[Act.put,rd]
           refine tk 2 (v:=?ft57) ?gt57 ?_
           case gt57=>(intro w' ⟨s0,s1,s2,s3,s4,s5⟩;go_simp;try with_reducible rfl)
           try simp only[Act.put,rd]
           refine tk 3 (v:=?ft58) ?gt58 ?_
           case gt58=>(intro w' ⟨s0,s1,s2,s3,s4,s5⟩;go_simp;try with_reducible rfl)
           try simp only[Act.put,rd]
           refine tk 4 (v:=?ft59) ?gt59 ?_
           case gt59=>(intro w' ⟨s0,s1,s2,s3,s4,s5⟩;go_simp;try with_reducible rfl)
           try simp only[Act.put,rd]
           refine tk 5 (v:=?ft60) ?gt60 ?_
           case gt60=>(intro w' ⟨s0,s1,s2,s3,s4,s5⟩;go_simp;try with_reducible rfl)
           try simp only[Act.put,rd]
           refine tk 6 (v:=(.bool false)) ?gt61 ?_
           case gt61=>(intro w' ⟨s0,s1,s2,s3,s4,s5⟩;go_simp;try with_reducible rfl)
           try simp only[Act.put,rd]
           refine tk 7 (v:=(.bool false)) ?gt62 ?_
           case gt62=>(intro w' ⟨s0,s1,s2,s3,s4,s5⟩;go_simp;try with_reducible rfl)
           try simp only[Act.put,rd]
           refine tk 8 (v:=?ft63) ?gt63 ?_
           case gt63=>(intro w' ⟨s0,s1,s2,s3,s4,s5⟩;go_simp;try with_reducible rfl)
           try simp only[Act.put,rd]
           refine tk 9 (v:=?ft64) ?gt64 ?_
           case gt64=>(intro w' ⟨s0,s1,s2,s3,s4,s5⟩;go_simp;try with_reducible rfl)
           try simp only[Act.put,rd]
           refine tk 10 (v:=?ft65) ?gt65 ?_
           case gt65=>(intro w' ⟨s0,s1,s2,s3,s4,s5⟩;go_simp;try with_reducible rfl)
           try simp only[Act.put,rd]
           refine tk 11 (v:=?ft66) ?gt66 ?_
           case gt66=>(intro w' ⟨s0,s1,s2,s3,s4,s5⟩;go_simp;try with_reducible rfl)
           try simp only[Act.put,rd]
           refine tk 12 (v:=?ft67) ?gt67 ?_
           case gt67=>(intro w' ⟨s0,s1,s2,s3,s4,s5⟩;go_simp;try with_reducible rfl)
           try simp only[Act.put,rd]
           refine tk 13 (v:=?ft68) ?gt68 ?_
           case gt68=>(intro w' ⟨s0,s1,s2,s3,s4,s5⟩;go_simp;try with_reducible rfl)
           try simp only[Act.put,rd]
           refine tk 14 (v:=(.bool true)) ?gt69 ?_
           case gt69=>(intro w' ⟨s0,s1,s2,s3,s4,s5⟩;go_simp;try with_reducible rfl)
           try simp only[Act.put,rd]
           refine tk 15 (v:=(.bool true)) ?gt70 ?_
           case gt70=>(intro w' ⟨s0,s1,s2,s3,s4,s5⟩;go_simp;try with_reducible rfl)
           try simp only[Act.put,rd]
           refine tk 16 (v:=(.bool true)) ?gt71 ?_
           case gt71=>(intro w' ⟨s0,s1,s2,s3,s4,s5⟩;go_simp;try with_reducible rfl)
           try simp only[Act.put,rd]
           refine sk 17 ?_
           try simp only[Act.put,rd]
           refine sk 18 ?_
           try simp only[Act.put,rd]
           refine sk 19 ?_
           try simp only[Act.put,rd]
           refine sk 20 ?_
           try simp only[Act.put,rd]
           refine sk 21 ?_
           try simp only[Act.put,rd]
           refine sk 22 ?_
           try simp only[Act.put,rd]
           refine sk 23 ?_
           try simp only[Act.put,rd]
           refine sk 24 ?_
           try simp only[Act.put,rd]
           refine sk 25 ?_
           try simp only[Act.put,rd]
           refine tk 26 (v:=(.bool true)) ?gt72 ?_
           case gt72=>(intro w' ⟨s0,s1,s2,s3,s4,s5⟩;go_simp;try with_reducible rfl)
           try simp only[Act.put,rd]
           refine wpAnyH_done (by kernel_rfl) ?_ _
           go_wp2_with fail
           go_meet
           exact⟨_,true,rfl,rfl,HE3.out.drew,HP3.out.drew,⟨fun q=>absurd q (by decide),fun q=>absurd (HY.out.2.1.symm.trans q.2.1) HK.out⟩⟩
        ·as_aux_lemma=>
          have HK:=Lib.hid hy0
          have hb0:(y0 != e0)=true:=by simp[HK.out]
          refine wp_region_held_drew (S:=(fun W:World=>W.cell? ⟨gc,0,none⟩=some (.int .i64 e0)∧W.cell? ⟨gc,1,none⟩=some (.int .i64 e1)∧W.cell? ⟨gc,2,none⟩=some (.int .i64 e2)∧W.cell? ⟨gl,ol,none⟩=some (.int .i64 y0)∧W.cell? ⟨gl,ol+1,none⟩=some (.int .i64 y1)∧W.cell? ⟨gl,ol+(V-1),none⟩=some (.int .i64 y2))) (by kernel_rfl) ⟨x0,x1,x2,z0,z1,z2⟩ (fun hHeld=>?_)
          refine tk 0 (v:=?ft73) ?gt73 ?_
          case gt73=>(intro w' ⟨s0,s1,s2,s3,s4,s5⟩;go_simp;try with_reducible rfl)
          try simp only[Act.put,rd]
          refine tk 1 (v:=?ft74) ?gt74 ?_
          case gt74=>(intro w' ⟨s0,s1,s2,s3,s4,s5⟩;go_simp;try with_reducible rfl)
          try simp only[Act.put,rd]
          refine tk 2 (v:=?ft75) ?gt75 ?_
          case gt75=>(intro w' ⟨s0,s1,s2,s3,s4,s5⟩;go_simp;try with_reducible rfl)
          try simp only[Act.put,rd]
          refine tk 3 (v:=?ft76) ?gt76 ?_
          case gt76=>(intro w' ⟨s0,s1,s2,s3,s4,s5⟩;go_simp;try with_reducible rfl)
          try simp only[Act.put,rd]
          refine tk 4 (v:=?ft77) ?gt77 ?_
          case gt77=>(intro w' ⟨s0,s1,s2,s3,s4,s5⟩;go_simp;try with_reducible rfl)
          try simp only[Act.put,rd]
          refine tk 5 (v:=?ft78) ?gt78 ?_
          case gt78=>(intro w' ⟨s0,s1,s2,s3,s4,s5⟩;go_simp;try with_reducible rfl)
          try simp only[Act.put,rd]
          refine tk 6 (v:=(.bool true)) ?gt79 ?_
          case gt79=>(intro w' ⟨s0,s1,s2,s3,s4,s5⟩;go_simp;try with_reducible rfl)
          try simp only[Act.put,rd]
          refine tk 7 (v:=(.bool true)) ?gt80 ?_
          case gt80=>(intro w' ⟨s0,s1,s2,s3,s4,s5⟩;go_simp;try with_reducible rfl)
          try simp only[Act.put,rd]
          refine sk 8 ?_
          try simp only[Act.put,rd]
          refine sk 9 ?_
          try simp only[Act.put,rd]
          refine sk 10 ?_
          try simp only[Act.put,rd]
          refine sk 11 ?_
          try simp only[Act.put,rd]
          refine sk 12 ?_
          try simp only[Act.put,rd]
          refine sk 13 ?_
          try simp only[Act.put,rd]
          refine sk 14 ?_
          try simp only[Act.put,rd]
          refine tk 15 (v:=(.bool true)) ?gt81 ?_
          case gt81=>(intro w' ⟨s0,s1,s2,s3,s4,s5⟩;go_simp;try with_reducible rfl)
          try simp only[Act.put,rd]
          refine tk 16 (v:=(.bool true)) ?gt82 ?_
          case gt82=>(intro w' ⟨s0,s1,s2,s3,s4,s5⟩;go_simp;try with_reducible rfl)
          try simp only[Act.put,rd]
          refine sk 17 ?_
          try simp only[Act.put,rd]
          refine sk 18 ?_
          try simp only[Act.put,rd]
          refine sk 19 ?_
          try simp only[Act.put,rd]
          refine sk 20 ?_
          try simp only[Act.put,rd]
          refine sk 21 ?_
          try simp only[Act.put,rd]
          refine sk 22 ?_
          try simp only[Act.put,rd]
          refine sk 23 ?_
          try simp only[Act.put,rd]
          refine sk 24 ?_
          try simp only[Act.put,rd]
          refine sk 25 ?_
          try simp only[Act.put,rd]
          refine tk 26 (v:=(.bool true)) ?gt83 ?_
          case gt83=>(intro w' ⟨s0,s1,s2,s3,s4,s5⟩;go_simp;try with_reducible rfl)
          try simp only[Act.put,rd]
          refine wpAnyH_done (by kernel_rfl) ?_ _
          go_wp2_with fail
          go_meet
          exact⟨_,true,rfl,rfl,HE3.out.drew,HP3.out.drew,⟨fun q=>absurd q (by decide),fun q=>absurd (HY.out.1.symm.trans q.1) HK.out⟩⟩
       case rest=>
        obtain⟨wx,bb,rfl,rfl,he4,hp4,hbb⟩:=hcut
        have HP4:=Lib.hid hp4
        have HE4:=Lib.hid he4
        have HBb:=Lib.hid hbb
        clear he4 hp4 hbb HC3
        cases bb
        case true=>
         have HNo:Hid (¬ (nth xs 0=e0∧nth xs 1=e1∧nth xs (V-1)=e2)):=Lib.hid fun q=>by have:=HBb.out.2 q;cases this
         clear HBb
         go_wp2_with fail
         go_ret
         exact⟨false,R,rfl,⟨fun q=>absurd q (by decide),fun q=>absurd ⟨q.2.1,q.2.2.1,q.2.2.2.1⟩ HNo.out⟩,HE1.out.trans HE4.out⟩
        case false=>
         have HYs:=Lib.hid (HBb.out.1 rfl)
         clear HBb
         obtain⟨x0,x1,x2⟩:=HX.out _ _ HE4.out
         go_wp2_with fail
         refine (HNm.out _ (HE1.out.trans HE4.out)).mono ?_
         rintro e w6 ⟨v6,rfl,he6,ho6⟩
         obtain⟨a6,c6,rfl,-⟩:=ho6.ints.open
         rw[namesL_length,HN.out] at ho6 ⊢
         have HNews:Hid (∀ i,i<V→NewR xs V i):=Lib.hid HAl.out
         have HE6:=Lib.hid (HE4.out.trans he6)
         have HNs:=Lib.hid (ho6.mono (show w.heap.size+1≤wx.heap.size by have:=HE4.out.size;simp at this;omega))
         have HPw:=Lib.hid ((HP4.out).ev he6)
         have HZ6:Hid (wx.heap.size≤w6.heap.size):=Lib.hid he6.size
         have HPlt:=Lib.hid (HPw.out.lt gp rfl).2
         obtain⟨P,hP⟩:∃ P,plR xs V V=P:=⟨_,rfl⟩
         have hPl:P.length=V:=by rw[←hP];exact plR_length xs V V
         rw[hP] at HPw
         have HPe:=Lib.hid hP
         have HPl:=Lib.hid hPl
         have HNl:Hid ((namesL s).length=N):=Lib.hid (by rw[namesL_length,HN.out])
         obtain⟨gn,rfl,-,-,-,-⟩:=HNs.out.headAt HNl.out (i:=0) (by have:=sizesL_le HT.out.perm;have:=HVe.out;have:=HN.out;omega)
         have HNlt:=Lib.hid (HNs.out.lt gn rfl).2
         clear he6 ho6 hP hPl x0 x1 x2 HO HE HE3 HP3 HE4
         go_wp2_with fail
         as_aux_lemma=>
          go_loopg [99] V (fun g v99 wq=>∃ (vi:Nat),vi≤V∧V-vi≤g∧v99=.int .i64 (vi:Int)∧Ev R (w.alloc (.cells #[.slice a0 N c0,.int .i64 (r:Int),.int .i64 0] 27)) R wq∧OwnI R (w.heap.size+1) 3 wq (.slice (some ⟨gp,0,none⟩) V V) P∧OwnI R (w.heap.size+1) 3 wq (.slice (some ⟨gn,0,none⟩) N c6) (namesL s)∧w6.heap.size≤wq.heap.size∧∀ d,d<N→vtx s d<vi→OkD s P V d)
          case atStart=>exact⟨0,Nat.zero_le _,by omega,rfl,HE6.out,HPw.out,HNs.out,Nat.le_refl _,fun d _ hd=>absurd hd (Nat.not_lt_zero _)⟩
          case round=>
           obtain⟨vi,hvi,hg,rfl,he,hp,hnm,hz,hall⟩:=hrel
           as_aux_lemma=>
            have HE:=Lib.hid he
            have HP:=Lib.hid hp
            have HM:=Lib.hid hnm
            have HZ:=Lib.hid hz
            have HAll:=Lib.hid hall
            clear he hp hnm hz hall HE6 HPw HNs
            by_cases hil:vi<V
            ·obtain⟨_,e,-,-,z0,-⟩:=HP.out.headAt HPl.out hil
             cases e
             obtain⟨p,hp⟩:∃ p,nth P vi=p:=⟨_,rfl⟩
             rw[hp] at z0
             have hplt:p<(V:Int):=by rw[←hp,←HPe.out];exact plR_lt xs V V vi hil
             have HPv:=Lib.hid hp
             obtain⟨d0,hd0,hv0,hmin⟩:=first_dart HT.out (v:=vi) (by rw[HVe.out];exact hil)
             rw[HN.out] at hd0
             have hvx:vtx s d0=vi:=by have:=vtx_eq HT.out.perm (x:=d0) (by rw[HN.out];exact hd0);rw[hv0] at this;omega
             have HV0:=Lib.hid hv0
             have HMin:=Lib.hid hmin
             have HVx:=Lib.hid hvx
             clear hp hv0 hmin hvx
             by_cases hp2:p<2
             ·have hb:decide (p<2)=true:=decide_eq_true hp2
              have HP2:=Lib.hid hp2
              go_wp2_with fail
              go_roundg (V-(vi+1))
              case measure=>omega
              case rel=>exact⟨vi+1,by omega,by omega,by go_num,HE.out,HP.out,HM.out,HZ.out,fun d hd hv=>by
               rcases (by omega:vtx s d<vi∨vtx s d=vi) with q|q
               ·exact HAll.out d hd q
               ·exact .inl (by rw[q,HPv.out];exact HP2.out)⟩
             ·have hb:decide (p<2)=false:=decide_eq_false hp2
              have HP2:=Lib.hid hp2
              clear hp2
              obtain⟨x0,x1,x2⟩:=HX.out _ _ HE.out
              go_wp2_with fail
              clear x0 x1 x2
              obtain⟨m,hm,m0,hmm,hmg⟩:=orb_getD HT.out (d:=d0) (by rw[HN.out];exact hd0)
              obtain⟨T,hT⟩:∃ T,orbitL s d0=T:=⟨_,rfl⟩
              have hTl:∀ y,y∈T→y<N:=by rw[←hT,←HN.out];exact orbitL_lt HT.out.perm (by rw[HN.out];exact hd0)
              have hm9:m≤N+1:=by rw[←hm,←HN.out];exact orbitL_length s d0
              rw[hT] at hm
              obtain⟨F,hF⟩:∃ F:Nat→Bool,(fun x=>ahdB s P p x)=F:=⟨_,rfl⟩
              have HFx:Hid (∀ x,ahdB s P p x=F x):=Lib.hid fun x=>congrFun hF x
              have HTe:=Lib.hid hT
              have HTm:=Lib.hid hm
              have HTl:=Lib.hid hTl
              have HFe:=Lib.hid hF
              clear hm hT hTl hF hmm hmg
              have HOd:=Lib.hid (fun w' (h:Ev R w R w')=>by have t:=HOr.out w' h d0 hd0;rwa [HTe.out] at t)
              obtain⟨wk,hwk⟩:∃ wk:World,wk=wr:=⟨_,rfl⟩
              subst hwk
              as_aux_lemma=>
               go_loopg [14,109] N (fun g v14 v109 wq=>∃ (d:Nat) (aA:Option Addr) (nA cA:Nat) (vs:List Value),d≤N∧N-d≤g∧v14=.slice aA nA cA∧v109=.int .i64 (d:Int)∧Ev R (w.alloc (.cells #[.slice a0 N c0,.int .i64 (r:Int),.int .i64 0] 27)) R wq∧OwnI R (w.heap.size+1) 3 wq (.slice (some ⟨gp,0,none⟩) V V) P∧OwnI R (w.heap.size+1) 3 wq (.slice (some ⟨gn,0,none⟩) N c6) (namesL s)∧w6.heap.size≤wq.heap.size∧OwnV R w6.heap.size 4 1 wq (.slice aA nA cA) nA vs∧((d≤d0∧aA=none∧nA=0∧cA=0)∨(d0<d∧nA=m∧vs=bvs F T)))
               case atStart=>exact⟨0,none,0,0,[],Nat.zero_le _,by omega,rfl,rfl,HE.out,HP.out,HM.out,HZ.out,OwnV.nil _ _ _ _ _,.inl ⟨Nat.zero_le _,rfl,rfl,rfl⟩⟩
               case round=>
                obtain⟨d,aA,nA,cA,vs,hdN,hgd,rfl,rfl,he,hp,hnm,hz,hA,hcase⟩:=hrel
                as_aux_lemma=>
                 have HE7:=Lib.hid he
                 have HP7:=Lib.hid hp
                 have HM7:=Lib.hid hnm
                 have HZ7:=Lib.hid hz
                 have HA7:=Lib.hid hA
                 clear he hp hnm hz hA HE HP HM HZ
                 by_cases hdl:d<N
                 ·obtain⟨_,e,-,-,z1,-⟩:=HM7.out.headAt HNl.out hdl
                  cases e
                  obtain⟨nd,hnd⟩:∃ x,nth (namesL s) d=x:=⟨_,rfl⟩
                  rw[hnd] at z1
                  have HNd:=Lib.hid hnd
                  clear hnd
                  have HSk:Hid (∀ b:Bool,True):=Lib.hid fun _=>trivial
                  rcases (by omega:d<d0∨d=d0∨d0<d) with q|q|q
                  ·
                   have hne:nd≠(vi:Int):=fun e=>HMin.out d q (HNd.out.trans e)
                   have hb:(nd == (vi:Int))=false:=beq_eq_false_iff_ne.2 hne
                   have HC:Hid (d+1≤d0∧aA=none∧nA=0∧cA=0):=Lib.hid ⟨q,by rcases hcase with k|k;exact k.2;omega⟩
                   clear hcase hne
                   go_wp2_with fail
                   go_roundg (N-(d+1))
                   case measure=>omega
                   case rel=>exact⟨d+1,aA,nA,cA,vs,by omega,by omega,rfl,by go_num,HE7.out,HP7.out,HM7.out,HZ7.out,HA7.out,.inl HC.out⟩
                  ·obtain⟨hna,hn0,hnc⟩:aA=none∧nA=0∧cA=0:=by rcases hcase with k|k;exact k.2;omega
                   clear hcase
                   subst q
                   have hb:(nd == (vi:Int))=true:=beq_iff_eq.2 (HNd.out.symm.trans HV0.out)
                   subst hna hn0 hnc
                   have hlen0:=HA7.out.size
                   have hvs:vs=[]:=List.eq_nil_of_length_eq_zero (by omega)
                   subst hvs
                   obtain⟨x0,x1,x2⟩:=HX.out _ _ HE7.out
                   go_wp2_with fail
                   refine (HOd.out _ (HE1.out.trans HE7.out)).mono ?_
                   rintro e w8 ⟨v8,rfl,he8,ho8⟩
                   obtain⟨a8,c8,rfl,-⟩:=ho8.ints.open
                   rw[toI_length,HTm.out] at ho8 ⊢
                   have HE8:=Lib.hid (HE7.out.trans he8)
                   have HP8:=Lib.hid (HP7.out.ev he8)
                   have HM8:=Lib.hid (HM7.out.ev he8)
                   have HO8:=Lib.hid (ho8.mono (show w.heap.size+1≤wr.heap.size by have:=HE7.out.size;simp at this;omega))
                   have HO8l:=Lib.hid (fun k (e:(Value.slice a8 m c8).ownBlock=some k)=>(ho8.lt k e).2)
                   have HZ8:Hid (w6.heap.size≤w8.heap.size):=Lib.hid (by have:=he8.size;have:=HZ7.out;omega)
                   have HZW:Hid (w.heap.size+1≤w6.heap.size∧gp<w6.heap.size∧gn<w6.heap.size):=Lib.hid ⟨by have:=HPlt.out;have:=(HP7.out.lt gp rfl).1;omega,HPlt.out,HNlt.out⟩
                   obtain⟨i0,hi,hz0,hz1,hz2⟩:=info_parts bool_info
                   clear he8 ho8 HA7 x0 x1 x2 hlen0
                   go_wp2_with fail
                   as_aux_lemma=>
                    go_loopg [14,128] m (fun g v14 v128 wq=>∃ (i:Nat) (aB:Option Addr) (cB:Nat),i≤m∧m-i≤g∧v14=.slice aB i cB∧v128=.int .i64 (i:Int)∧Ev R (w.alloc (.cells #[.slice a0 N c0,.int .i64 (r:Int),.int .i64 0] 27)) R wq∧OwnI R (w.heap.size+1) 3 wq (.slice (some ⟨gp,0,none⟩) V V) P∧OwnI R (w.heap.size+1) 3 wq (.slice (some ⟨gn,0,none⟩) N c6) (namesL s)∧OwnI R (w.heap.size+1) 3 wq (.slice a8 m c8) (toI T)∧OwnV R w8.heap.size 4 1 wq (.slice aB i cB) i (bvs F (T.take i))∧w8.heap.size≤wq.heap.size)
                    case atStart=>exact⟨0,none,0,Nat.zero_le _,by omega,rfl,rfl,HE8.out,HP8.out,HM8.out,HO8.out,OwnV.nil _ _ _ _ _,Nat.le_refl _⟩
                    case round=>
                     obtain⟨i,aB,cB,him,hgi,rfl,rfl,he,hp,hnm,ho,hB,hz⟩:=hrel
                     as_aux_lemma=>
                      have HE9:=Lib.hid he
                      have HP9:=Lib.hid hp
                      have HM9:=Lib.hid hnm
                      have HO9:=Lib.hid ho
                      have HB9:=Lib.hid hB
                      have HZ9:=Lib.hid hz
                      clear he hp hnm ho hB hz HE8 HP8 HM8 HO8
                      by_cases hil2:i<m
                      ·obtain⟨ga,rfl,-,-,z2,-⟩:=HO9.out.headAt (show (toI T).length=m by rw[toI_length,HTm.out]) hil2
                       have hiT:i<T.length:=by rw[HTm.out];exact hil2
                       obtain⟨x,hx⟩:∃ x,T[i]=x:=⟨_,rfl⟩
                       have hxN:x<N:=HTl.out x (by rw[←hx];exact List.getElem_mem _)
                       rw[toI_nth,at'_eq hiT,hx] at z2
                       have hbv:=bvs_take (F:=F) hiT
                       rw[hx] at hbv
                       have hxm:x ^^^ 1<N:=by rw[←HN.out];exact xor_one_lt HT.out.even (by rw[HN.out];exact hxN)
                       have hfx:=HFx.out x
                       unfold ahdB at hfx
                       have hvm:=vtx_eq HT.out.perm (x:=x ^^^ 1) (by rw[HN.out];exact hxm)
                       have hvV:=vtx_lt HT.out.perm (x:=x ^^^ 1) (by rw[HN.out];exact hxm)
                       rw[HVe.out] at hvV
                       have HM1:=Lib.hid (fun w'=>HMt.out w' x hxN)
                       obtain⟨xm,hxe⟩:∃ xm,x ^^^ 1=xm:=⟨_,rfl⟩
                       rw[hxe] at hxm hfx hvm hvV HM1
                       obtain⟨u,hu⟩:∃ u,vtx s xm=u:=⟨_,rfl⟩
                       rw[hu] at hfx hvm hvV
                       obtain⟨_,e,-,-,z3,-⟩:=HM9.out.headAt HNl.out hxm
                       cases e
                       rw[hvm] at z3
                       obtain⟨_,e,-,-,z4,-⟩:=HP9.out.headAt HPl.out hvV
                       cases e
                       obtain⟨y,hy⟩:∃ y,nth P u=y:=⟨_,rfl⟩
                       rw[hy] at z4 hfx
                       obtain⟨fx,hfe⟩:∃ fx,F x=fx:=⟨_,rfl⟩
                       rw[hfe] at hfx hbv
                       have HBv:=Lib.hid hbv
                       have HEa:=Lib.hid (HE9.out.alloc (.cells #[.bool fx] 4))
                       have HBa:=Lib.hid (HB9.out.alloc (.cells #[.bool fx] 4))
                       have hne:∀ (v:Value),(∀ k,v.ownBlock=some k→k<w8.heap.size)→(v.ownBlock=none∨v.ownBlock≠(Value.slice aB i cB).ownBlock):=fun v hl=>by
                        cases hb:v.ownBlock with
                        | none=>exact .inl rfl
                        | some k=>exact .inr fun e=>by have h1:=(HB9.out.lt k e.symm).1;have h2:=hl k hb;omega
                       have HNe:=Lib.hid hne
                       have hsrc:∀ j u2,([.bool fx]:List Value)[j]?=some u2→(wr.alloc (.cells #[.bool fx] 4)).cell? ((⟨wr.heap.size,0,none⟩:Addr).add j)=some u2:=one_cellT wr (.bool fx) 4
                       have HSrc:=Lib.hid hsrc
                       clear hx hbv hxe hu hvm hy hfe hne hsrc
                       go_wp2_with fail
                       refine (HM1.out _).mono ?_
                       rintro e w' ⟨rfl,rfl⟩
                       go_wp2_with (at_builtin;refine wpList_app_row 45 4 1 1 _ Try.underlying45 bool_info rfl (by decide) (by decide) (R:=R) (B:=w8.heap.size) rfl _ _ rfl HBa.out rfl ⟨wr.heap.size,0,none⟩ 1 1 [.bool fx] rfl rfl HSrc.out (by simp[Value.oneCell']) (by omega) (by have:=HZ9.out;simp;omega) (fun q hq=>HEa.out.inv.none_of_ge hq) ?_)
                       intro v' wB hoB hgB hsB
                       rw[←HBv.out] at hoB
                       obtain⟨aC,cC,rfl,-,-,-⟩:=hoB.open
                       have HE10:=Lib.hid (HEa.out.appV HBa.out (by have:=HZ8.out;have:=HZW.out.1;simp;omega) hgB)
                       have HP10:=Lib.hid ((HP9.out.alloc (.cells #[.bool fx] 4)).kept hgB (HNe.out _ (fun k e=>by have e2:gp=k:=Option.some.inj e;have:=HZ8.out;have:=HZW.out.2.1;omega)))
                       have HM10:=Lib.hid ((HM9.out.alloc (.cells #[.bool fx] 4)).kept hgB (HNe.out _ (fun k e=>by have e2:gn=k:=Option.some.inj e;have:=HZ8.out;have:=HZW.out.2.2;omega)))
                       have HO10:=Lib.hid ((HO9.out.alloc (.cells #[.bool fx] 4)).kept hgB (HNe.out _ HO8l.out))
                       have HB10:=Lib.hid hoB
                       have hz10:w8.heap.size≤wB.heap.size:=Nat.le_trans HZ9.out (Nat.le_trans (le_alloc _ _) hgB.size)
                       clear hoB hgB hsB
                       go_wp2_with fail
                       go_roundg (m-(i+1))
                       case measure=>omega
                       case rel=>exact⟨i+1,aC,cC,by omega,by omega,rfl,by go_num,HE10.out,HP10.out,HM10.out,HO10.out,HB10.out,hz10⟩
                      ·obtain rfl:m=i:=by omega
                       have hTt:T.take m=T:=by rw[←HTm.out];exact List.take_length
                       have hB:=HB9.out
                       rw[hTt] at hB
                       have HBf:=Lib.hid (hB.mono HZ8.out)
                       have HZf:Hid (w6.heap.size≤wr.heap.size):=Lib.hid (Nat.le_trans HZ8.out HZ9.out)
                       clear hB hTt
                       go_wp2_with fail
                       go_roundg (N-(d+1))
                       case measure=>omega
                       case rel=>exact⟨d+1,aB,m,cB,bvs F T,by omega,by omega,rfl,by go_num,HE9.out,HP9.out,HM9.out,HZf.out,HBf.out,.inr ⟨by omega,rfl,rfl⟩⟩
                  ·
                   have hk:nA=m∧vs=bvs F T:=by rcases hcase with k|k;omega;exact k.2
                   clear hcase
                   have HK:=Lib.hid hk.2
                   have hnA:=hk.1
                   clear hk
                   subst hnA
                   have hb0:((nA:Int) == 0)=false:=beq_eq_false_iff_ne.2 (by omega)
                   by_cases hnv:nd=(vi:Int)
                   ·have hb:(nd == (vi:Int))=true:=beq_iff_eq.2 hnv
                    clear hnv
                    go_wp2_with fail
                    go_roundg (N-(d+1))
                    case measure=>omega
                    case rel=>exact⟨d+1,aA,nA,cA,vs,by omega,by omega,rfl,by go_num,HE7.out,HP7.out,HM7.out,HZ7.out,HA7.out,.inr ⟨by omega,rfl,HK.out⟩⟩
                   ·have hb:(nd == (vi:Int))=false:=beq_eq_false_iff_ne.2 hnv
                    clear hnv
                    go_wp2_with fail
                    go_roundg (N-(d+1))
                    case measure=>omega
                    case rel=>exact⟨d+1,aA,nA,cA,vs,by omega,by omega,rfl,by go_num,HE7.out,HP7.out,HM7.out,HZ7.out,HA7.out,.inr ⟨by omega,rfl,HK.out⟩⟩
                 ·obtain⟨hnA,hvs⟩:nA=m∧vs=bvs F T:=by
                   rcases hcase with k|k
                   ·omega
                   ·exact k.2
                  clear hcase
                  subst hnA hvs
                  have hbl:(bvs F T).length=nA:=by unfold bvs;rw[List.length_map,HTm.out]
                  obtain⟨gA,rfl,-,-,-,-⟩:=HA7.out.headAt (i:=0) (by rw[hbl];exact m0)
                  have HCe:Hid (∀ j,j<nA→wr.cell? ⟨gA,j,none⟩=some (.bool (F (T.getD j 0)))):=Lib.hid fun j hj=>by
                   obtain⟨_,e,-,-,z,-⟩:=HA7.out.headAt (i:=j) (by rw[hbl];exact hj)
                   cases e
                   rw[z]
                   unfold bvs
                   rw[List.getElem?_map,List.getElem?_eq_getElem (by rw[HTm.out];exact hj),getD_at (by rw[HTm.out];exact hj)]
                   rfl
                  have HOq:=Lib.hid (okQ_okD HT.out (P:=P) (V:=V) (d:=d0) (by rw[HN.out];exact hd0) (by rw[HVx.out,HPv.out];omega))
                  have hok:OkQ s P V d0↔(p<2∨¬ (cntD F T<2∨(p<(V:Int)-1∧(chgTo F T T.length≠2∨cntD F T=T.length)))):=by
                   unfold OkQ
                   rw[HVx.out,HPv.out,HFe.out,HTe.out]
                  have HOk:=Lib.hid hok
                  clear hok hbl
                  go_wp2_with fail
                  as_aux_lemma=>
                   go_loopg [15,19,149] nA (fun g v15 v19 v149 wq=>∃ (i cn ch:Nat),i≤nA∧nA-i≤g∧v15=.int .i64 (cn:Int)∧v19=.int .i64 (ch:Int)∧v149=.int .i64 (i:Int)∧wq=wr∧cn=cntD F (T.take i)∧ch=chgTo F T i∧cn≤i∧ch≤i)
                   case atStart=>exact⟨0,0,0,Nat.zero_le _,by omega,rfl,rfl,rfl,rfl,by simp[cntD],rfl,by omega,by omega⟩
                   case round=>
                    obtain⟨i,cn,ch,hiA,hgi,rfl,rfl,rfl,rfl,hcn,hch,hcl,hcl2⟩:=hrel
                    as_aux_lemma=>
                     have HCn:=Lib.hid hcn
                     have HCh:=Lib.hid hch
                     clear hcn hch
                     by_cases hil2:i<nA
                     ·have z1:=HCe.out i hil2
                      obtain⟨j,hj⟩:∃ j,(i+1) % nA=j:=⟨_,rfl⟩
                      have hjA:j<nA:=by rw[←hj];exact Nat.mod_lt _ m0
                      have z2:=HCe.out j hjA
                      have s1:=cntD_take (f:=F) (T:=T) (i:=i) (by rw[HTm.out];exact hil2)
                      rw[←getD_at (by rw[HTm.out];exact hil2)] at s1
                      have s2:chgTo F T (i+1)=chgTo F T i+ind (F (T.getD i 0)≠F (T.getD ((i+1) % T.length) 0)):=rfl
                      rw[HTm.out,hj] at s2
                      obtain⟨f1,hf1⟩:∃ f1,F (T.getD i 0)=f1:=⟨_,rfl⟩
                      obtain⟨f2,hf2⟩:∃ f2,F (T.getD j 0)=f2:=⟨_,rfl⟩
                      rw[hf1] at z1 s1 s2
                      rw[hf2] at z2 s2
                      rw[←HCn.out] at s1
                      rw[←HCh.out] at s2
                      have HS1:=Lib.hid s1
                      have HS2:=Lib.hid s2
                      have hw1:IntKind.i64.wrap ((i:Int)+1)=((i+1:Nat):Int):=by rw[show (i:Int)+1=((i+1:Nat):Int) by omega];exact IntWalk.i64_in _ (by omega)
                      have hr1:((i+1:Nat):Int).tmod (nA:Int)=(j:Int):=by rw[←hj];rfl
                      have hr2:((i:Int)+1).tmod (nA:Int)=(j:Int):=by rw[←hj];rfl
                      have hr3:((i:Int)+1) % (nA:Int)=(j:Int):=by rw[←hj];rfl
                      have hnz:¬ (nA:Int)=0:=by omega
                      have hnz':¬ nA=0:=by omega
                      have hw2:IntKind.i64.wrap ((cn:Int)+1)=((cn+1:Nat):Int):=by rw[show (cn:Int)+1=((cn+1:Nat):Int) by omega];exact IntWalk.i64_in _ (by omega)
                      have hw3:IntKind.i64.wrap ((ch:Int)+1)=((ch+1:Nat):Int):=by rw[show (ch:Int)+1=((ch+1:Nat):Int) by omega];exact IntWalk.i64_in _ (by omega)
                      clear hj s1 s2 hf1 hf2
                      cases f1 <;> cases f2
                      all_goals
                       go_wp2_with fail
                       go_roundg (nA-(i+1))
                       case measure=>omega
                       case rel=>first
                        | exact⟨i+1,cn,ch,by omega,by omega,rfl,rfl,by go_num,rfl,by rw[HS1.out];simp,by have t:=HS2.out;rw[ind_no (by simp)] at t;omega,by omega,by omega⟩
                        | exact⟨i+1,cn,ch+1,by omega,by omega,rfl,by go_num,by go_num,rfl,by rw[HS1.out];simp,by have t:=HS2.out;rw[ind_yes (by simp)] at t;omega,by omega,by omega⟩
                        | exact⟨i+1,cn+1,ch,by omega,by omega,by go_num,rfl,by go_num,rfl,by rw[HS1.out];simp,by have t:=HS2.out;rw[ind_no (by simp)] at t;omega,by omega,by omega⟩
                        | exact⟨i+1,cn+1,ch+1,by omega,by omega,by go_num,by go_num,by go_num,rfl,by rw[HS1.out];simp,by have t:=HS2.out;rw[ind_yes (by simp)] at t;omega,by omega,by omega⟩
                     ·obtain rfl:nA=i:=by omega
                      have hTt:T.take nA=T:=by rw[←HTm.out];exact List.take_length
                      have hcnT:cntD F T=cn:=by rw[HCn.out,hTt]
                      have hchT:chgTo F T T.length=ch:=by rw[HTm.out,HCh.out]
                      have hok:=HOk.out
                      rw[hcnT,hchT,HTm.out] at hok
                      have HOk:=Lib.hid hok
                      have hw5:IntKind.i64.wrap ((V:Int)-1)=(V:Int)-1:=IntWalk.i64_in _ (by omega)
                      clear hok hcnT hchT hTt
                      by_cases c1:cn<2
                      ·have hb1:decide ((cn:Int)<2)=true:=decide_eq_true (by omega)
                       have HNo:Hid (¬ OkD s P V d0):=Lib.hid fun k=>by
                        rcases (HOk.out.1 (HOq.out.2 k)) with t|t
                        ·exact absurd t (by have:=HP2.out;omega)
                        ·exact t (.inl c1)
                       go_wp2_with fail
                       go_ret
                       exact⟨false,R,rfl,⟨fun q=>absurd q (by decide),fun q=>absurd (by have t:=q.2.2.2.2.2 d0 hd0;rw[HPe.out] at t;exact t) HNo.out⟩,HE1.out.trans HE7.out⟩
                      ·have hb1:decide ((cn:Int)<2)=false:=decide_eq_false (by omega)
                       by_cases c2:p<(V:Int)-1
                       ·have hb2:decide (p<(V:Int)-1)=true:=decide_eq_true c2
                        by_cases c3:ch=2
                        ·have hb3:((ch:Int) != 2)=false:=by simp;omega
                         by_cases c4:cn=nA
                         ·have hb4:((cn:Int) == (nA:Int))=true:=beq_iff_eq.2 (by omega)
                          have HNo:Hid (¬ OkD s P V d0):=Lib.hid fun k=>by
                           rcases (HOk.out.1 (HOq.out.2 k)) with t|t
                           ·exact absurd t (by have:=HP2.out;omega)
                           ·exact t (.inr ⟨c2,.inr c4⟩)
                          go_wp2_with fail
                          go_ret
                          exact⟨false,R,rfl,⟨fun q=>absurd q (by decide),fun q=>absurd (by have t:=q.2.2.2.2.2 d0 hd0;rw[HPe.out] at t;exact t) HNo.out⟩,HE1.out.trans HE7.out⟩
                         ·have hb4:((cn:Int) == (nA:Int))=false:=beq_eq_false_iff_ne.2 (by omega)
                          have HYe:Hid (OkD s P V d0):=Lib.hid (HOq.out.1 (HOk.out.2 (.inr (fun t=>by rcases t with t|⟨_,t|t⟩;exact c1 t;exact t c3;exact c4 t))))
                          go_wp2_with fail
                          go_roundg (V-(vi+1))
                          case measure=>omega
                          case rel=>exact⟨vi+1,by omega,by omega,by go_num,HE7.out,HP7.out,HM7.out,HZ7.out,fun d hd hv=>by
                           rcases (by omega:vtx s d<vi∨vtx s d=vi) with q|q
                           ·exact HAll.out d hd q
                           ·exact (okQ_same HT.out (by rw[HN.out];exact hd0) (by rw[HN.out];exact hd) (by rw[HVx.out,q]) (by rw[HVx.out,HPv.out];omega)).1 HYe.out⟩
                        ·have hb3:((ch:Int) != 2)=true:=by simp;omega
                         have HNo:Hid (¬ OkD s P V d0):=Lib.hid fun k=>by
                          rcases (HOk.out.1 (HOq.out.2 k)) with t|t
                          ·exact absurd t (by have:=HP2.out;omega)
                          ·exact t (.inr ⟨c2,.inl c3⟩)
                         go_wp2_with fail
                         go_ret
                         exact⟨false,R,rfl,⟨fun q=>absurd q (by decide),fun q=>absurd (by have t:=q.2.2.2.2.2 d0 hd0;rw[HPe.out] at t;exact t) HNo.out⟩,HE1.out.trans HE7.out⟩
                       ·have hb2:decide (p<(V:Int)-1)=false:=decide_eq_false c2
                        have HYe:Hid (OkD s P V d0):=Lib.hid (HOq.out.1 (HOk.out.2 (.inr (fun t=>by rcases t with t|⟨t,_⟩;exact c1 t;exact c2 t))))
                        go_wp2_with fail
                        go_roundg (V-(vi+1))
                        case measure=>omega
                        case rel=>exact⟨vi+1,by omega,by omega,by go_num,HE7.out,HP7.out,HM7.out,HZ7.out,fun d hd hv=>by
                         rcases (by omega:vtx s d<vi∨vtx s d=vi) with q|q
                         ·exact HAll.out d hd q
                         ·exact (okQ_same HT.out (by rw[HN.out];exact hd0) (by rw[HN.out];exact hd) (by rw[HVx.out,q]) (by rw[HVx.out,HPv.out];omega)).1 HYe.out⟩
            ·obtain rfl:V=vi:=by omega
             have HAl:Hid (∀ d,d<N→OkD s P V d):=Lib.hid fun d hd=>HAll.out d hd (by have:=vtx_lt HT.out.perm (x:=d) (by rw[HN.out];exact hd);rwa [HVe.out] at this)
             have HQ:Hid (∀ i,i<V→NewR xs V i):=HNews
             go_wp2_with fail
             go_ret
             exact⟨true,R,rfl,⟨fun _=>⟨HXl.out,HYs.out.1,HYs.out.2.1,HYs.out.2.2,HQ.out,fun d hd=>by rw[HPe.out];exact HAl.out d hd⟩,fun _=>rfl⟩,HE1.out.trans HE.out⟩
end Go.Proofs.Ytgphnkkdmlohlaa
