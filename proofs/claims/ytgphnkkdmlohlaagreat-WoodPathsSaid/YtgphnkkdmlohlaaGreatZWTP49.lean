/- WoodPaths, the walk: it answers true. Conditions: none. -/
import Derived.Test.YtgphnkkdmlohlaaGreatZWTP46
import Derived.Test.YtgphnkkdmlohlaaGreatZWTP38
import Derived.Test.YtgphnkkdmlohlaaGreatZWTP47
import Derived.Test.YtgphnkkdmlohlaaGreatZWTP48
namespace Go.Proofs.YtgphnkkdmlohlaaGreat
open Go.RowKit
set_option linter.unusedVariables false
set_option linter.unusedSimpArgs false
def cntF (L:List Int):Int→Option Int:=fun j=>if L.count j=0 then none else some ((L.count j:Nat):Int)
theorem cntF_getD (L:List Int) (u:Int):(cntF L u).getD 0=((L.count u:Nat):Int):=by
 unfold cntF
 by_cases q:L.count u=0
 ·rw[if_pos q,q];rfl
 ·rw[if_neg q];rfl
theorem cntF_app (L:List Int) (u:Int):updF (cntF L) u ((L.count u+1:Nat):Int)=cntF (L ++ [u]):=by
 funext j
 by_cases e:j=u
 ·subst e
  rw[updF_same]
  unfold cntF
  have:(L ++ [j]).count j=L.count j+1:=by rw[List.count_append];simp
  rw[this,if_neg (by omega)]
 ·rw[updF_other _ _ _ e]
  unfold cntF
  have:(L ++ [u]).count j=L.count j:=by
   rw[List.count_append,List.count_cons_of_ne (fun q=>e q.symm)]
   simp
  rw[this]
theorem paths_count {s:List Nat} (h:TriS s) {r:Nat} (hr:r<s.length) {v:Nat} (hv:v<(sizesL s).length) (u:Int):
  (u=(v:Int)→(pathO s r 0 (v:Int)).count u+(pathO s r 1 (v:Int)).count u+(pathO s r 2 (v:Int)).count u=3) ∧
  (u≠(v:Int)→(pathO s r 0 (v:Int)).count u+(pathO s r 1 (v:Int)).count u+(pathO s r 2 (v:Int)).count u≤1):=by
 have hp:=plC_own h hr
 have hI:=isV_of h hr hv
 have hm:=fun c=>muZ_lt h hr (c:=c) hI
 have mem:∀ c:Int,0≤c→c≤2→(u∈pathO s r c (v:Int)↔OnP s r (plC (orderL s r)) c (v:Int) u):=fun c h0 h2=>mem_pathF h hr hp h0 h2 _ _ (hm c)
 have one:∀ c:Int,0≤c→c≤2→(pathO s r c (v:Int)).count u≤1:=fun c h0 h2=>List.nodup_iff_count.1 (pathF_nodup h hr hp h0 h2 (hm c)) u
 have pos:∀ c:Int,0<(pathO s r c (v:Int)).count u↔u∈pathO s r c (v:Int):=fun c=>List.count_pos_iff
 obtain⟨x,hx,ex⟩:=hI
 have apart:∀ c c':Int,0≤c→c<c'→c'≤2→u≠(v:Int)→u∈pathO s r c (v:Int)→u∈pathO s r c' (v:Int)→False:=fun c c' h0 h1 h2 hne m1 m2=>by
  have k1:=(mem c h0 (by omega)).1 m1
  have k2:=(mem c' (by omega) h2).1 m2
  rw[←ex] at k1 k2 hne
  exact hne (paths_apart h hr hp hx h0 h1 h2 k1 k2)
 have o0:=one 0 (by decide) (by decide)
 have o1:=one 1 (by decide) (by decide)
 have o2:=one 2 (by decide) (by decide)
 constructor
 ·intro e
  have m:∀ c:Int,0≤c→c≤2→0<(pathO s r c (v:Int)).count u:=fun c h0 h2=>(pos c).2 ((mem c h0 h2).2 (by rw[e];exact .here _))
  have:=m 0 (by decide) (by decide)
  have:=m 1 (by decide) (by decide)
  have:=m 2 (by decide) (by decide)
  omega
 ·intro e
  rcases Nat.eq_zero_or_pos ((pathO s r 0 (v:Int)).count u) with z0|z0
  ·rcases Nat.eq_zero_or_pos ((pathO s r 1 (v:Int)).count u) with z1|z1
   ·omega
   ·rcases Nat.eq_zero_or_pos ((pathO s r 2 (v:Int)).count u) with z2|z2
    ·omega
    ·exact (apart 1 2 (by decide) (by decide) (by decide) e ((pos 1).1 z1) ((pos 2).1 z2)).elim
  ·rcases Nat.eq_zero_or_pos ((pathO s r 1 (v:Int)).count u) with z1|z1
   ·rcases Nat.eq_zero_or_pos ((pathO s r 2 (v:Int)).count u) with z2|z2
    ·omega
    ·exact (apart 0 2 (by decide) (by decide) (by decide) e ((pos 0).1 z0) ((pos 2).1 z2)).elim
   ·exact (apart 0 1 (by decide) (by decide) (by decide) e ((pos 0).1 z0) ((pos 1).1 z1)).elim
noncomputable def pathsTo (s:List Nat) (r v:Nat):Nat→List Int
 | 0=>[]
 | k+1=>pathsTo s r v k ++ pathO s r (k:Int) (v:Int)
theorem pathsTo_count {s:List Nat} (h:TriS s) {r:Nat} (hr:r<s.length) {v:Nat} (hv:v<(sizesL s).length) {u y:Int} (hy:cntF (pathsTo s r v 3) u=some y):(u=(v:Int)→y=3)∧(u≠(v:Int)→y=1):=by
 have e:(pathsTo s r v 3).count u=(pathO s r 0 (v:Int)).count u+(pathO s r 1 (v:Int)).count u+(pathO s r 2 (v:Int)).count u:=by
  show ((([] ++ pathO s r ((0:Nat):Int) (v:Int)) ++ pathO s r ((1:Nat):Int) (v:Int)) ++ pathO s r ((2:Nat):Int) (v:Int)).count u=_
  rw[List.count_append,List.count_append,List.nil_append]
  rfl
 have k:=paths_count h hr hv u
 unfold cntF at hy
 rw[e] at hy
 split at hy
 ·cases hy
 ·injection hy with hy
  constructor
  ·intro q;have:=k.1 q;omega
  ·intro q;have:=k.2 q;omega
set_option maxRecDepth 100000 in
set_option maxHeartbeats 6000000 in
theorem woodPaths_walk (w:World) (n root at_:Nat) (hn:n≤255) (hr:root≤255) (hat:at_≤255) (v:Value) (bs:List Nat) (hv:FreeB noReg w v bs):
  Calls Tryz.prog 4 #[.int .u8 (n:Int),v,.int .u8 (root:Int),.int .u8 (at_:Int)] w (RetTrue noReg w):=by
 have HA:=Lib.hid (awake15_any noReg w (Inv.noReg w))
 have HTr:=Lib.hid (fun R' w' (h:Ev noReg w R' w')=>r14tri_any R' w' h.inv (n % 14) (by omega) v bs (hv.ev h) root hr)
 obtain⟨q,hq⟩:∃ q,n % 14=q:=⟨_,rfl⟩
 have hq16:q<14:=by omega
 have hqm:(n:Int) % 14=(q:Int):=by omega
 rw[hq] at HTr
 obtain⟨a0,c0,rfl,_,_⟩:=hv
 clear hq
 go_enter Tryz.func4,Tryz.ntmps4
 go_wp2_with fail
 refine HA.out.mono ?_
 rintro e w1 ⟨rfl,R1,he1⟩
 have HE1:=Lib.hid he1
 have HTr:=Lib.hid (HTr.out _ _ he1)
 clear he1 HA
 go_wp2_with fail
 refine HTr.out.mono ?_
 rintro e w2 ⟨s,r,hT,hsl,hrt,a,c,rfl,he2,ho2⟩
 as_aux_lemma=>
  unfold refV
  have hrs:r<s.length:=by omega
  have hok:MapOk s (r:Int) 0:=by unfold MapOk;have:=hT.even;omega
  have hea:=he2.alloc (.cells #[.slice a s.length c,.int .i64 (r:Int),.int .i64 0] 26)
  have hoa:=ho2.alloc (.cells #[.slice a s.length c,.int .i64 (r:Int),.int .i64 0] 26)
  have HOf:=Lib.hid (of15_any R1 _ hea.inv _ s (r:Int) 0 hoa.free hT.perm hok)
  have HOg:=Lib.hid (of15_any R1 _ he2.inv _ s (r:Int) 0 ho2.free hT.perm hok)
  unfold refV at HOf HOg
  have HEa:=Lib.hid (HE1.out.trans hea)
  have HEg:=Lib.hid (HE1.out.trans he2)
  have HOa:=Lib.hid hoa.free
  have HO2:=Lib.hid ho2.free
  have HT:=Lib.hid hT
  have HR:=Lib.hid hrs
  have HVm:=Lib.hid (sizesL_le hT.perm)
  have hbx:=heap_alloc_new w2 (.cells #[.slice a s.length c,.int .i64 (r:Int),.int .i64 0] 26)
  have HX:=Lib.hid (fun R' w' (h:Ev R1 (w2.alloc (.cells #[.slice a s.length c,.int .i64 (r:Int),.int .i64 0] 26)) R' w')=>boxC_cells (h.boxC3 hbx (he2.inv.none_of_ge (Nat.le_refl _))).1)
  obtain⟨N,hN⟩:∃ N,s.length=N:=⟨_,rfl⟩
  have hN1000:N≤1000:=by omega
  have HN:=Lib.hid hN
  rw[hN] at HOf HEa HX HOa HOg HO2 ⊢
  clear he2 ho2 HTr hT hok hea hoa hsl hrt hrs hN HE1 hbx
  go_wp2_with fail
  obtain⟨bx,hbe⟩:∃ x,w2.heap.size=x:=⟨_,rfl⟩
  obtain⟨wa,hwa⟩:∃ x,w2.alloc (.cells #[.slice a N c,.int .i64 (r:Int),.int .i64 0] 26)=x:=⟨_,rfl⟩
  rw[hbe,hwa] at HX
  rw[hwa] at HOf HEa HOa
  rw[hwa,hbe]
  clear hwa hbe HOg HO2 HEg
  refine HOf.out.mono ?_
  rintro e w3 ⟨p,R3,rfl,he3,hp3⟩
  have HE3:=Lib.hid he3
  have HWo:=Lib.hid (woodOf_tri R3 w3 he3.inv p s r hp3 HT.out HR.out)
  have HP3:=Lib.hid hp3
  clear he3 hp3 HOf
  go_wp2_with fail
  refine HWo.out.mono ?_
  rintro e w4 ⟨b4,R4,D,rfl,he4,hD,hA⟩
  have HE4:=Lib.hid (HE3.out.trans he4)
  have HP4:=Lib.hid (he4.map HP3.out)
  have HDs:=Lib.hid hD
  have HA4:=Lib.hid hA
  clear he4 hD hA HWo HE3 HP3
  obtain⟨x0,x1,x2,-⟩:=HX.out _ _ HE4.out
  have hVt:=rvertices_any R4 w4 HE4.out.inv (.slice a N c) s (r:Int) 0 (HOa.out.ev HE4.out) HT.out.perm (by rw[HN.out];omega) (by omega) (by omega)
  unfold refV at hVt
  obtain⟨V,hV⟩:∃ V,(sizesL s).length=V:=⟨_,rfl⟩
  rw[hV,Int.add_zero] at hVt
  have hV3:3≤V:=by rw[←hV];exact HT.out.big
  have hVN:V≤1000:=by have:=HVm.out;rw[HN.out,hV] at this;omega
  have HVt:=Lib.hid hVt
  have HV:=Lib.hid hV
  obtain⟨v,hv⟩:∃ v,at_ % V=v:=⟨_,rfl⟩
  have hvV:v<V:=by rw[←hv];exact Nat.mod_lt _ (by omega)
  have hw0:IntKind.i64.wrap (at_:Int)=(at_:Int):=IntWalk.i64_in _ (by omega)
  have hr1:(at_:Int).tmod (V:Int)=(v:Int):=by rw[←hv];rfl
  have hr2:(at_:Int) % (V:Int)=(v:Int):=by rw[←hv];rfl
  have hnz:¬ (V:Int)=0:=by omega
  have hnz':¬ V=0:=by omega
  clear hVt hV hv
  go_wp2_with fail
  refine HVt.out.mono ?_
  rintro e w5 ⟨rfl,he5⟩
  have HE5:=Lib.hid (HE4.out.trans he5)
  have HP5:=Lib.hid (he5.map HP4.out)
  have HA5:=Lib.hid (HA4.out.ev he5)
  clear he5 HVt HP4 HA4 HE4 x0 x1 x2
  as_aux_lemma=>
   have hMd:=FMap.made (R:=R4) (w:=w5) HE5.out.inv
   have hEm:=HE5.out.alloc (.map #[] 0)
   have HEm:=Lib.hid hEm
   have HMd:=Lib.hid hMd
   have hE5m:=(Ev.refl HE5.out.inv).alloc (.map #[] 0)
   have HPt:=Lib.hid (fun R' w' (he:Ev R4 w5 R' w') (k:Nat) (hk:k<3)=>wpath_tri R' w' he.inv p s r (he.map HP5.out) HT.out HR.out b4 D (HA5.out.ev he) HDs.out v (by rw[HV.out];exact hvV) (k:Int) (Int.natCast_nonneg k) (by omega))
   have HE5m:=Lib.hid hE5m
   obtain⟨bm,hbm⟩:∃ x,w5.heap.size=x:=⟨_,rfl⟩
   have HBm:=Lib.hid hbm
   have HPl:=Lib.hid (fun (k:Nat) (hk:k<3)=>(by have:=(path_facts HT.out HR.out (v:=v) (by rw[HV.out];exact hvV) (c:=(k:Int)) (Int.natCast_nonneg k) (by omega)).2.2.1;rwa [HV.out] at this:(pathO s r (k:Int) (v:Int)).length≤V))
   have HPb:=Lib.hid (fun (k:Nat) (hk:k<3) (i:Nat) (hi:i<(pathO s r (k:Int) (v:Int)).length)=>(by
    have hpl:=plC_own HT.out HR.out
    have hm:=nth_mem hi
    have hI:=isV_of HT.out HR.out (show v<(sizesL s).length by rw[HV.out];exact hvV)
    have k1:=(mem_pathF HT.out HR.out hpl (c:=(k:Int)) (Int.natCast_nonneg k) (by omega) _ _ (muZ_lt HT.out HR.out (c:=(k:Int)) hI)).1 hm
    have isv:∀ {a u:Int},IsV s a→OnP s r (plC (orderL s r)) (k:Int) a u→IsV s u:=fun ha q=>by
     induction q with
     | here=>exact ha
     | on q1 _ ih=>exact ih (ParR.isV HT.out HR.out hpl q1).2
    have:=IsV.nat HT.out HR.out hpl (isv hI k1)
    exact⟨this.1,by have:=this.2.1;rw[HV.out] at this;omega⟩:0≤nth (pathO s r (k:Int) (v:Int)) i∧nth (pathO s r (k:Int) (v:Int)) i≤1000))
   have HCn:=Lib.hid (fun u y (hy:cntF (pathsTo s r v 3) u=some y)=>pathsTo_count HT.out HR.out (show v<(sizesL s).length by rw[HV.out];exact hvV) hy)
   have HFin:=Lib.hid (HEa.out.trans HE5.out)
   clear hMd hEm hE5m
   have hmm:=@run_makeMap Tryz.prog
   have HM0:=Lib.hid (show FMap R4 (w5.alloc (.map #[] 0)) bm 0 (cntF []) 0 by rw[←hbm];exact HMd.out)
   have hbs:bm<(w5.alloc (.map #[] 0)).heap.size:=by rw[←hbm];simp
   obtain⟨w6,hw6⟩:∃ x,w5.alloc (.map #[] 0)=x:=⟨_,rfl⟩
   rw[hw6] at HEm HE5m HM0 hbs
   have HI6:=Lib.hid HE5m.out
   clear HMd HA5 HP5 HDs
   go_wp2_with fail
   clear hmm hbm hw6 hr1 hr2 hw0 hnz hnz'
   go_loopg [41] 3 (fun g v41 wq=>∃ (k c:Nat) (R7:Reg),k≤3∧3-k≤g∧v41=.int .i64 (k:Int)∧Ev R4 w5 R7 wq∧bm<wq.heap.size∧(pathsTo s r v k).length≤k*V∧FMap R7 wq bm (pathsTo s r v k).length (cntF (pathsTo s r v k)) c)
   case atStart=>exact⟨0,0,R4,by omega,by omega,rfl,HE5m.out,hbs,by simp[pathsTo],HM0.out⟩
   case round=>
    obtain⟨k,c7,R7,hk3,hg7,rfl,he7,hb7,hl7,hm7⟩:=hrel
    as_aux_lemma=>
     have HE7:=Lib.hid he7
     have HM7:=Lib.hid hm7
     clear he7 hm7 HM0 HE5m
     by_cases hkl:k<3
     ·have hkb:decide ((k:Int)<3)=true:=decide_eq_true (by omega)
      have HP1:=Lib.hid (HPt.out _ _ HE7.out k hkl)
      have hpl:=HPl.out k hkl
      have HPb1:=Lib.hid (HPb.out k hkl)
      have hst:pathsTo s r v (k+1)=pathsTo s r v k ++ pathO s r (k:Int) (v:Int):=rfl
      obtain⟨T,hT⟩:∃ T,pathO s r (k:Int) (v:Int)=T:=⟨_,rfl⟩
      obtain⟨L,hL⟩:∃ L,pathsTo s r v k=L:=⟨_,rfl⟩
      rw[hT] at HP1 hpl HPb1 hst
      rw[hL] at HM7 hl7 hst
      have HSt:=Lib.hid hst
      obtain⟨Lt,hLt⟩:∃ x,T.length=x:=⟨_,rfl⟩
      have HLt:=Lib.hid hLt
      rw[hLt] at hpl HPb1
      obtain⟨Ll,hLl⟩:∃ x,L.length=x:=⟨_,rfl⟩
      have HLl:=Lib.hid hLl
      rw[hLl] at HM7 hl7
      have hl3:Ll≤3000:=by
       have:k*V≤3*1000:=Nat.mul_le_mul (by omega) hVN
       omega
      have HLe:Hid (Ll+Lt≤(k+1)*V):=Lib.hid (by rw[Nat.add_mul];omega)
      clear hst hT hL hLt hLl hl7
      go_wp2_with fail
      refine HP1.out.mono ?_
      rintro e w8 ⟨v8,R8,rfl,he8,ho8⟩
      obtain⟨a8,c8,rfl,-⟩:=ho8.ints.open
      rw[HLt.out] at ho8 ⊢
      have HE8:=Lib.hid (HE7.out.trans he8)
      have HM8:=Lib.hid (HM7.out.ev he8)
      have HO8:=Lib.hid ho8
      have hb8:bm<w8.heap.size:=Nat.lt_of_lt_of_le hb7 he8.size
      obtain⟨B8,hB8⟩:∃ x,wr.heap.size=x:=⟨_,rfl⟩
      rw[hB8] at HO8 hb7
      clear he8 ho8 hB8 HP1 HE7 HM7
      go_wp2_with fail
      go_loopg [49] Lt (fun g v49 wq=>∃ (i c:Nat),i≤Lt∧Lt-i≤g∧v49=.int .i64 (i:Int)∧Ev R4 w5 R8 wq∧bm<wq.heap.size∧OwnI R8 B8 3 wq (.slice a8 Lt c8) T∧FMap R8 wq bm (Ll+i) (cntF (L ++ T.take i)) c)
      case atStart=>exact⟨0,c7,Nat.zero_le _,by omega,rfl,HE8.out,hb8,HO8.out,by rw[List.take_zero,List.append_nil,Nat.add_zero];exact HM8.out⟩
      case round=>
       obtain⟨i,c9,hil9,hg9,rfl,he9,hb9,ho9,hm9⟩:=hrel
       as_aux_lemma=>
        have HE9:=Lib.hid he9
        have HO9:=Lib.hid ho9
        have HM9:=Lib.hid hm9
        clear he9 ho9 hm9 HE8 HM8 HO8
        by_cases hil:i<Lt
        ·obtain⟨g8,rfl,-,-,z,-⟩:=HO9.out.headAt HLt.out (i:=i) hil
         obtain⟨u0,u1⟩:=HPb1.out i hil
         have hta:T.take (i+1)=T.take i ++ [nth T i]:=by
          rw[List.take_succ_eq_append_getElem (by rw[HLt.out];exact hil),nth_at (by rw[HLt.out];exact hil)]
         obtain⟨u,hu⟩:∃ u,nth T i=u:=⟨_,rfl⟩
         rw[hu] at z u0 u1 hta
         obtain⟨Q,hQ⟩:∃ Q,L ++ T.take i=Q:=⟨_,rfl⟩
         have hQ2:L ++ T.take (i+1)=Q ++ [u]:=by rw[hta,←hQ,List.append_assoc]
         have hcb:Q.count u≤4000:=by
          have h1:Q.count u≤Q.length:=List.count_le_length
          have h2:Q.length=Ll+i:=by rw[←hQ,List.length_append,HLl.out,List.length_take,HLt.out];omega
          omega
         rw[hQ] at HM9
         have hlook:=FMap.look HM9.out u (by omega)
         rw[cntF_getD] at hlook
         obtain⟨cq,hcq⟩:∃ x,Q.count u=x:=⟨_,rfl⟩
         rw[hcq] at hlook hcb
         have hap:=cntF_app Q u
         rw[hcq] at hap
         have hw1:IntKind.i64.wrap ((cq:Int)+1)=((cq+1:Nat):Int):=by rw[show (cq:Int)+1=((cq+1:Nat):Int) by omega];exact IntWalk.i64_in _ (by omega)
         obtain⟨c1,hc1⟩:∃ x,cq+1=x:=⟨_,rfl⟩
         rw[hc1] at hap hw1
         have HAp:=Lib.hid hap
         have HQ2:=Lib.hid hQ2
         have hc1b:c1≤4001:=by omega
         have hno:some bm≠(Value.slice (some ⟨g8,0,none⟩) Lt c8).ownBlock:=fun e=>by have:=(HO9.out.lt bm e.symm).1;omega
         have HNo:=Lib.hid hno
         clear hu hQ hta hQ2 hcq hap hc1 hno hcb
         go_wp2_with (at_mapUpdate;refine wpList_fput rfl _ _ _ rfl HM9.out (by omega) u (c1:Int) rfl rfl rfl (by omega) (by omega) ?_;intro w10 hm10 hg10)
         rw[HAp.out] at hm10
         have HE10:=Lib.hid (HE9.out.mput HM9.out (by rw[HBm.out];exact Nat.le_refl _) hg10)
         have HO10:=Lib.hid (HO9.out.kept hg10 (.inr (fun e=>HNo.out e.symm)))
         have HM10:=Lib.hid hm10
         have hb10:bm<w10.heap.size:=Nat.lt_of_lt_of_le hb9 hg10.size
         clear hm10 hg10 hlook
         go_wp2_with fail
         go_roundg (Lt-(i+1))
         case measure=>omega
         case rel=>exact⟨i+1,_,by omega,by omega,by go_num,HE10.out,hb10,HO10.out,by rw[HQ2.out];exact HM10.out⟩
        ·obtain rfl:Lt=i:=by omega
         have hta:T.take Lt=T:=by rw[←HLt.out];exact List.take_length
         have hm:=HM9.out
         rw[hta,←HSt.out] at hm
         have hlen:(pathsTo s r v (k+1)).length=Ll+Lt:=by rw[HSt.out,List.length_append,HLl.out,HLt.out]
         have HFm:=Lib.hid hm
         have HLn:=Lib.hid hlen
         have HLb:Hid (Ll+Lt≤(k+1)*V):=Lib.hid HLe.out
         clear hta hm hlen
         go_wp2_with fail
         go_roundg (3-(k+1))
         case measure=>omega
         case rel=>exact⟨k+1,c9,R8,by omega,by omega,by go_num,HE9.out,hb9,by rw[HLn.out];exact HLb.out,by rw[HLn.out];exact HFm.out⟩
     ·obtain rfl:k=3:=by omega
      obtain⟨L,hL⟩:∃ L,pathsTo s r v 3=L:=⟨_,rfl⟩
      rw[hL] at HM7 HCn
      clear hL hl7 hkl
      go_wp2_with (at_range;refine wpList_frange rfl _ rfl HM7.out (HE7.out.inv.none_of_ge (Nat.le_refl _)) rfl ?_;intro w8 hfr8 hg8)
      try go_frame
      have HE8:=Lib.hid (HE7.out.grown hg8 (by simp))
      obtain⟨br,hbr⟩:∃ x,wr.heap.size=x:=⟨_,rfl⟩
      rw[hbr] at hfr8
      rw[hbr]
      have HF8:=Lib.hid hfr8
      have hbr5:w5.heap.size≤br:=by rw[←hbr];exact HE7.out.size
      have HRr:=Lib.hid (show R7 br=none by rw[←hbr];exact HE7.out.inv.none_of_ge (Nat.le_refl _))
      clear hfr8 hg8 hbr HM7 HE7
      go_loopg [17] c7 (fun g v17 wq=>∃ (lf:Int→Bool) (cnt:Nat),cnt≤g∧FRange R7 wq bm br L.length (cntF L) lf cnt c7∧Ev R4 w5 R7 wq)
      case atStart=>exact⟨_,c7,Nat.le_refl _,HF8.out,HE8.out⟩
      case round=>
       clear HF8 HE8
       obtain⟨lf,cnt,hcg,hfr,hev⟩:=hrel
       have HFr:=Lib.hid hfr
       have HEv:=Lib.hid hev
       clear hfr hev
       go_wp2_with (at_next;refine wpList_fnext rfl _ rfl HFr.out rfl ?_ ?_)
       ·intro hdone
        clear hdone
        go_wp2_with fail
        go_ret
        exact⟨rfl,R7,HFin.out.trans HEv.out⟩
       ·intro x y w9 cnt' hlx hfx hfr9 hlt9 hg9 hen9
        have hcn:=HCn.out x y hfx
        have HF9:=Lib.hid hfr9
        have HE9:=Lib.hid (HEv.out.grown hg9 (fun k hk=>by cases hk;exact⟨hbr5,HRr.out⟩))
        clear hfr9 hg9 hlx hfx
        by_cases hxv:x=(v:Int)
        ·obtain rfl:y=3:=hcn.1 hxv
         have hb1:(x == (v:Int))=true:=beq_iff_eq.2 hxv
         have hb2:(x != (v:Int))=false:=by rw[hxv];simp
         clear hcn hxv
         go_wp2_with fail
         go_roundg cnt'
         case measure=>omega
         case rel=>exact⟨_,cnt',Nat.le_refl _,HF9.out,HE9.out⟩
        ·obtain rfl:y=1:=hcn.2 hxv
         have hb1:(x == (v:Int))=false:=beq_eq_false_iff_ne.2 hxv
         have hb2:(x != (v:Int))=true:=by simpa using hxv
         clear hcn hxv
         go_wp2_with fail
         go_roundg cnt'
         case measure=>omega
         case rel=>exact⟨_,cnt',Nat.le_refl _,HF9.out,HE9.out⟩
end Go.Proofs.YtgphnkkdmlohlaaGreat
