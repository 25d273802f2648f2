/- WoodCounts, the walk: it answers true. Conditions: none. -/
import Derived.Test.YtgphnkkdmlohlaaGreatZWoodCounts46
import Derived.Test.YtgphnkkdmlohlaaGreatZWoodCounts38
import Derived.Test.YtgphnkkdmlohlaaGreatZWoodCounts43
namespace Go.Proofs.YtgphnkkdmlohlaaGreat
open Go.RowKit
set_option linter.unusedVariables false
set_option linter.unusedSimpArgs false
theorem chl_len {s:List Nat} (h:TriS s) {r:Nat} (hr:r<s.length) {d0 v:Nat} (hd:d0<s.length) (hv:vtx s d0=v) (c:Int):(((toI (orbitL s d0)).filter fun d=>nth (woodR s r) (d.toNat ^^^ 1) == c).map fun d=>nth (namesL s) (d.toNat ^^^ 1)).length=inN s r (plC (orderL s r)) c v:=by
 have hp:=plC_own h hr
 rw[List.length_map,←hv,inN_at h hr hp hd]
 have e:∀ T:List Nat,((toI T).filter fun d=>nth (woodR s r) (d.toNat ^^^ 1) == c).length=cntD (fun x=>nth (woodR s r) (x ^^^ 1) == c) T:=fun T=>by
  unfold cntD toI
  rw[List.filter_map,List.length_map]
  rfl
 rw[e,cnt_at h hd]
 refine tally_congr fun x hx=>?_
 rw[beq_iff_eq,woodR_at h hr (xor_one_lt h.even hx)]
theorem parO_corner {s:List Nat} (h:TriS s) {r:Nat} (hr:r<s.length) {x v:Nat} (hx:x<s.length) (hv:vtx s x=v) (c:Int) (h0:0≤c) (h2:c≤2):(cornZ s r x=true→parO s r c (v:Int)=-1)∧(cornZ s r x=false→0≤parO s r c (v:Int)):=by
 have hp:=plC_own h hr
 have e:nth (namesL s) x=(v:Int):=by rw[vtx_eq h.perm hx,hv]
 constructor
 ·intro k
  refine parZ_no h hr hp fun b q=>?_
  rw[←e] at q
  exact par_none h hr hp hx k h0 b q
 ·intro k
  obtain⟨b,q⟩:=par_some h hr hp hx k h0 h2
  rw[e] at q
  unfold parO
  rw[parZ_yes h hr hp h0 h2 q]
  exact (IsV.nat h hr hp (ParR.isV h hr hp q).2).1
theorem cor3_mem {s:List Nat} {r x:Nat}:decide (nth (namesL s) x∈cor3 s r)=cornZ s r x:=by
 unfold cor3 cornZ
 rw[Bool.eq_iff_iff]
 simp only[List.mem_cons,List.not_mem_nil,or_false,decide_eq_true_eq,Bool.or_eq_true,beq_iff_eq,or_assoc]
set_option maxRecDepth 100000 in
set_option maxHeartbeats 6000000 in
theorem woodCounts_walk (w:World) (n root:Nat) (hn:n≤255) (hr:root≤255) (v:Value) (bs:List Nat) (hv:FreeB noReg w v bs):
  Calls Tryz.prog 5 #[.int .u8 (n:Int),v,.int .u8 (root:Int)] w (RetTrue noReg w):=by
 have HA:=Lib.hid (awake15_any noReg w (Inv.noReg w))
 have HTr:=Lib.hid (fun R' w' (h:Ev noReg w R' w')=>r14tri_any R' w' h.inv (n % 14) (by omega) v bs (hv.ev h) root hr)
 obtain⟨q,hq⟩:∃ q,n % 14=q:=⟨_,rfl⟩
 have hq16:q<14:=by omega
 have hqm:(n:Int) % 14=(q:Int):=by omega
 rw[hq] at HTr
 obtain⟨a0,c0,rfl,_,_⟩:=hv
 clear hq
 go_enter Tryz.func5,Tryz.ntmps5
 go_wp2_with fail
 refine HA.out.mono ?_
 rintro e w1 ⟨rfl,R1,he1⟩
 have HE1:=Lib.hid he1
 have HTr:=Lib.hid (HTr.out _ _ he1)
 clear he1 HA
 go_wp2_with fail
 refine HTr.out.mono ?_
 rintro e w2 ⟨s,r,hT,hsl,hrt,a,c,rfl,he2,ho2⟩
 as_aux_lemma=>
  unfold refV
  have hrs:r<s.length:=by omega
  have hok:MapOk s (r:Int) 0:=by unfold MapOk;have:=hT.even;omega
  have hea:=he2.alloc (.cells #[.slice a s.length c,.int .i64 (r:Int),.int .i64 0] 26)
  have hoa:=ho2.alloc (.cells #[.slice a s.length c,.int .i64 (r:Int),.int .i64 0] 26)
  have HOf:=Lib.hid (of15_any R1 _ hea.inv _ s (r:Int) 0 hoa.free hT.perm hok)
  have HOg:=Lib.hid (of15_any R1 _ he2.inv _ s (r:Int) 0 ho2.free hT.perm hok)
  unfold refV at HOf HOg
  have HEa:=Lib.hid (HE1.out.trans hea)
  have HEg:=Lib.hid (HE1.out.trans he2)
  have HOa:=Lib.hid hoa.free
  have HO2:=Lib.hid ho2.free
  have HT:=Lib.hid hT
  have HR:=Lib.hid hrs
  have HVm:=Lib.hid (sizesL_le hT.perm)
  have hbx:=heap_alloc_new w2 (.cells #[.slice a s.length c,.int .i64 (r:Int),.int .i64 0] 26)
  have HX:=Lib.hid (fun R' w' (h:Ev R1 (w2.alloc (.cells #[.slice a s.length c,.int .i64 (r:Int),.int .i64 0] 26)) R' w')=>boxC_cells (h.boxC3 hbx (he2.inv.none_of_ge (Nat.le_refl _))).1)
  obtain⟨N,hN⟩:∃ N,s.length=N:=⟨_,rfl⟩
  have hN1000:N≤1000:=by omega
  have HN:=Lib.hid hN
  rw[hN] at HOf HEa HX HOa HOg HO2 ⊢
  clear he2 ho2 HTr hT hok hea hoa hsl hrt hrs hN HE1 hbx
  go_wp2_with fail
  obtain⟨bx,hbe⟩:∃ x,w2.heap.size=x:=⟨_,rfl⟩
  obtain⟨wa,hwa⟩:∃ x,w2.alloc (.cells #[.slice a N c,.int .i64 (r:Int),.int .i64 0] 26)=x:=⟨_,rfl⟩
  rw[hbe,hwa] at HX
  rw[hwa] at HOf HEa HOa
  rw[hwa,hbe]
  clear hwa hbe HOg HO2 HEg
  refine HOf.out.mono ?_
  rintro e w3 ⟨p,R3,rfl,he3,hp3⟩
  have HE3:=Lib.hid he3
  have HWo:=Lib.hid (woodOf_tri R3 w3 he3.inv p s r hp3 HT.out HR.out)
  have HP3:=Lib.hid hp3
  clear he3 hp3 HOf
  go_wp2_with fail
  refine HWo.out.mono ?_
  rintro e w4 ⟨b4,R4,D,rfl,he4,hD,hA⟩
  have HE4:=Lib.hid (HE3.out.trans he4)
  have HP4:=Lib.hid (he4.map HP3.out)
  have HDs:=Lib.hid hD
  have HA4:=Lib.hid hA
  clear he4 hD hA HWo HE3 HP3
  obtain⟨x0,x1,x2,-⟩:=HX.out _ _ HE4.out
  have hRc:=r14corners_any R4 w4 HE4.out.inv (.slice a N c) s r 0 (HOa.out.ev HE4.out) HT.out.perm HT.out.even (by rw[HN.out];omega) HR.out
  unfold refV at hRc
  have HRc:=Lib.hid hRc
  clear hRc
  go_wp2_with fail
  refine HRc.out.mono ?_
  rintro e w5 ⟨v5,rfl,he5,ho5⟩
  have hC3:(cor3 s r).length=3:=rfl
  obtain⟨a5,c5,rfl,-⟩:=ho5.ints.open
  rw[hC3] at ho5 ⊢
  have HE5:=Lib.hid (HE4.out.trans he5)
  have HO5:=Lib.hid ho5
  have HP5:=Lib.hid (he5.map HP4.out)
  have HA5:=Lib.hid (HA4.out.ev he5)
  clear he5 ho5 HRc HP4 HA4 HE4 hC3
  as_aux_lemma=>
   obtain⟨V,hV⟩:∃ V,(sizesL s).length=V:=⟨_,rfl⟩
   have hV3:3≤V:=by rw[←hV];exact HT.out.big
   have hVN:V≤1000:=by have:=HVm.out;rw[HN.out,hV] at this;omega
   have HV:=Lib.hid hV
   clear hV
   have HVt:=Lib.hid (fun R' w' (he:Ev R3 w3 R' w')=>True.intro)
   have hVs:=vertices_any R4 w5 HE5.out.inv p s (r:Int) 0 HP5.out
   rw[HV.out,Int.add_zero] at hVs
   have HVs:=Lib.hid hVs
   clear hVs HVt
   go_wp2_with fail
   refine HVs.out.mono ?_
   rintro e w6 ⟨rfl,R6,he6⟩
   have HE6:=Lib.hid (HE5.out.trans he6)
   have HP6:=Lib.hid (he6.map HP5.out)
   have HA6:=Lib.hid (HA5.out.ev he6)
   have HO6:=Lib.hid (HO5.out.ev he6)
   clear he6 HVs HP5 HA5 HO5 HE5
   go_wp2_with fail
   go_loopg [37] V (fun g v37 wq=>∃ (v:Nat) (R7:Reg),v≤V∧V-v≤g∧v37=.int .i64 (v:Int)∧Ev R6 w6 R7 wq)
   case atStart=>exact⟨0,R6,Nat.zero_le _,by omega,rfl,Ev.refl HE6.out.inv⟩
   case round=>
    obtain⟨v,R7,hvV,hg,rfl,he7⟩:=hrel
    as_aux_lemma=>
     have HE7:=Lib.hid he7
     clear he7
     by_cases hvl:v<V
     ·obtain⟨x,hx,hxv⟩:=HT.out.named (v:=v) (by rw[HV.out];exact hvl)
      have hvx:vtx s x=v:=by have:=vtx_eq HT.out.perm hx;omega
      obtain⟨kc,hkc⟩:∃ k,cornZ s r x=k:=⟨_,rfl⟩
      have hcm:decide ((v:Int)∈cor3 s r)=kc:=by rw[←hxv,cor3_mem,hkc]
      obtain⟨L,hL⟩:∃ L,(orbitL s x).length=L:=⟨_,rfl⟩
      have hLN:L≤1001:=by have:=orbitL_length s x;have:=HN.out;omega
      have hdeg:degI s 0 (v:Int)=(L:Int):=by
       unfold degI
       rw[if_neg (by rw[HV.out];omega),if_neg (by rw[HV.out];omega),Int.toNat_natCast,←hL]
       exact orbit_size HT.out.perm hx hxv
      obtain⟨f,hf⟩:∃ f:Nat→Nat,(fun (k:Nat)=>inN s r (plC (orderL s r)) (k:Int) v)=f:=⟨_,rfl⟩
      have hfx:∀ k:Nat,inN s r (plC (orderL s r)) (k:Int) v=f k:=fun k=>congrFun hf k
      have hsum:f 0+f 1+f 2+(if kc=true then 2 else 3)=L:=by
       rw[←hL,←hfx,←hfx,←hfx,←hvx]
       cases kc
       ·exact come_inner HT.out HR.out (plC_own HT.out HR.out) hx hkc
       ·exact come_corner HT.out HR.out (plC_own HT.out HR.out) hx hkc
      have hpar:∀ k:Nat,k<3→(kc=true→parO s r (k:Int) (v:Int)=-1)∧(kc=false→0≤parO s r (k:Int) (v:Int)):=fun k hk=>by
       rw[←hkc]
       exact parO_corner HT.out HR.out hx hvx (k:Int) (by omega) (by omega)
      have HCh:=Lib.hid (fun R' w' (he:Ev R6 w6 R' w') (k:Nat) (hk:k<3)=>wchildren_any R' w' he.inv p s r (he.map HP6.out) HT.out b4 (woodR s r) D (HA6.out.ev he) (woodR_len HT.out HR.out) HDs.out v (by rw[HV.out];exact hvl) (k:Int) (by omega) (by omega))
      have HPa:=Lib.hid (fun R' w' (he:Ev R6 w6 R' w') (k:Nat) (hk:k<3)=>wparent_tri R' w' he.inv p s r (he.map HP6.out) HT.out HR.out b4 D (HA6.out.ev he) HDs.out v (by rw[HV.out];exact hvl) (k:Int) (by omega) (by omega))
      have HLn:=Lib.hid (fun (k d0:Nat) (h1:d0<s.length) (h2:vtx s d0=v)=>(by rw[chl_len HT.out HR.out h1 h2 (k:Int),hfx k]:(((toI (orbitL s d0)).filter fun d=>nth (woodR s r) (d.toNat ^^^ 1) == (k:Int)).map fun d=>nth (namesL s) (d.toNat ^^^ 1)).length=f k))
      have HDg:=Lib.hid (fun R' w' (he:Ev R6 w6 R' w')=>by
       have:=degree_any R' w' he.inv p s (r:Int) 0 (he.map HP6.out) (v:Int)
       rwa [hdeg] at this)
      have HCt:=Lib.hid (fun R' w' (he:Ev R6 w6 R' w')=>by
       have:=contains_any w' a5 3 c5 _ (v:Int) ((HO6.out.ev he).ints) (by omega)
       rwa [hcm] at this)
      have HPr:=Lib.hid hpar
      have HSm:=Lib.hid hsum
      have hfb:f 0+f 1+f 2≤1001:=by omega
      clear hx hxv hvx hkc hcm hL hdeg hf hfx hsum hpar
      go_wp2_with fail
      go_loopg [13,14,40] 3 (fun g v13 v14 v40 wq=>∃ (k cm gs:Nat) (R8:Reg),k≤3∧3-k≤g∧v13=.int .i64 (cm:Int)∧v14=.int .i64 (gs:Int)∧v40=.int .i64 (k:Int)∧Ev R6 w6 R8 wq∧cm=sumQ f k∧gs=(if kc=true then 0 else k))
      case atStart=>exact⟨0,0,0,R7,by omega,by omega,rfl,rfl,rfl,HE7.out,rfl,by cases kc <;> rfl⟩
      case round=>
       obtain⟨k,cm,gs,R8,hk3,hg8,rfl,rfl,rfl,he8,hcm,hgs⟩:=hrel
       as_aux_lemma=>
        have HE8:=Lib.hid he8
        have HCm:=Lib.hid hcm
        have HGs:=Lib.hid hgs
        have hcb:cm≤1001:=by
         have:sumQ f k≤f 0+f 1+f 2:=by
          rcases (by omega:k=0∨k=1∨k=2∨k=3) with e|e|e|e <;> subst e <;> simp[sumQ] <;> omega
         omega
        have hgb:gs≤3:=by rw[hgs];split <;> omega
        clear he8 hcm hgs HE7
        by_cases hkl:k<3
        ·have HC1:=Lib.hid (HCh.out _ _ HE8.out k hkl)
         have HP1:=Lib.hid (fun R' w' (he:Ev R6 w6 R' w')=>HPa.out R' w' he k hkl)
         have hfk:f k≤1001:=by
          rcases (by omega:k=0∨k=1∨k=2) with e|e|e <;> subst e <;> omega
         go_wp2_with fail
         refine HC1.out.mono ?_
         rintro e w9 ⟨v9,R9,d0,rfl,hd0,hdv,he9,ho9⟩
         have hl9:=HLn.out k d0 hd0 hdv
         obtain⟨a9,c9,rfl,-⟩:=ho9.ints.open
         rw[hl9]
         have HE9:=Lib.hid (HE8.out.trans he9)
         have hw1:IntKind.i64.wrap ((cm:Int)+(f k:Int))=((cm+f k:Nat):Int):=by rw[show (cm:Int)+(f k:Int)=((cm+f k:Nat):Int) by omega];exact IntWalk.i64_in _ (by omega)
         obtain⟨cm2,hcm2⟩:∃ x,cm+f k=x:=⟨_,rfl⟩
         rw[hcm2] at hw1
         have HCm2:=Lib.hid (show cm2=sumQ f (k+1) by show _=sumQ f k+f k;rw[←HCm.out,hcm2])
         obtain⟨fk,hfke⟩:∃ x,f k=x:=⟨_,rfl⟩
         rw[hfke] at hw1 ⊢
         have HP2:=Lib.hid (HP1.out _ _ HE9.out)
         have hpr:=HPr.out k hkl
         obtain⟨pv,hpv⟩:∃ x,parO s r (k:Int) (v:Int)=x:=⟨_,rfl⟩
         rw[hpv] at hpr HP2
         clear hd0 hdv he9 ho9 hl9 HC1 HP1 hcm2 hfke hpv hfk
         go_wp2_with fail
         refine HP2.out.mono ?_
         rintro e w10 ⟨rfl,R10,he10⟩
         have HE10:=Lib.hid (HE9.out.trans he10)
         clear he10 HP2 HE9
         cases kc
         ·have hp0:0≤pv:=hpr.2 rfl
          have hb:decide (0≤pv)=true:=decide_eq_true hp0
          have hb2:decide (pv ≥ 0)=true:=decide_eq_true hp0
          have hge:gs=k:=by have:=HGs.out;simpa using this
          clear hpr hp0
          go_wp2_with fail
          go_roundg (3-(k+1))
          case measure=>omega
          case rel=>exact⟨k+1,cm2,gs+1,R10,by omega,by omega,rfl,by go_num,by go_num,HE10.out,HCm2.out,by rw[hge];rfl⟩
         ·have hp0:pv=-1:=hpr.1 rfl
          have hge:gs=0:=by have:=HGs.out;simpa using this
          subst hp0
          subst hge
          clear hpr
          go_wp2_with fail
          go_roundg (3-(k+1))
          case measure=>omega
          case rel=>exact⟨k+1,cm2,0,R10,by omega,by omega,rfl,rfl,by go_num,HE10.out,HCm2.out,rfl⟩
        ·obtain rfl:k=3:=by omega
         have hc3:cm=f 0+f 1+f 2:=by rw[HCm.out];simp[sumQ]
         have HCt1:=Lib.hid (HCt.out _ _ HE8.out)
         have HDg1:=Lib.hid (HDg.out _ _ HE8.out)
         clear HCm hkl
         cases kc
         ·have hge:gs=3:=by have:=HGs.out;simpa using this
          have hcl:cm+3=L:=by have:=HSm.out;simp at this;omega
          clear hc3 HGs
          subst hge
          have hw1:IntKind.i64.wrap ((L:Int)-3)=(cm:Int):=by rw[show (L:Int)-3=(cm:Int) by omega];exact IntWalk.i64_in _ (by omega)
          clear hcl
          go_wp2_with fail
          refine HCt1.out.mono ?_
          rintro e w9 ⟨rfl,rfl⟩
          go_wp2_with fail
          refine HDg1.out.mono ?_
          rintro e w10 ⟨rfl,R10,he10⟩
          have HE10:=Lib.hid (HE8.out.trans he10)
          clear he10
          go_wp2_with fail
          go_roundg (V-(v+1))
          case measure=>omega
          case rel=>exact⟨v+1,R10,by omega,by omega,by go_num,HE10.out⟩
         ·have hge:gs=0:=by have:=HGs.out;simpa using this
          have hcl:cm+2=L:=by have:=HSm.out;simp at this;omega
          clear hc3 HGs
          subst hge
          have hw1:IntKind.i64.wrap ((L:Int)-2)=(cm:Int):=by rw[show (L:Int)-2=(cm:Int) by omega];exact IntWalk.i64_in _ (by omega)
          clear hcl
          go_wp2_with fail
          refine HCt1.out.mono ?_
          rintro e w9 ⟨rfl,rfl⟩
          go_wp2_with fail
          refine HDg1.out.mono ?_
          rintro e w10 ⟨rfl,R10,he10⟩
          have HE10:=Lib.hid (HE8.out.trans he10)
          clear he10
          go_wp2_with fail
          go_roundg (V-(v+1))
          case measure=>omega
          case rel=>exact⟨v+1,R10,by omega,by omega,by go_num,HE10.out⟩
     ·obtain rfl:V=v:=by omega
      go_wp2_with fail
      go_ret
      exact⟨rfl,R7,HEa.out.trans (HE6.out.trans HE7.out)⟩
end Go.Proofs.YtgphnkkdmlohlaaGreat
