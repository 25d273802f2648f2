/- GrowBack, the walk: it answers true. Conditions: none. -/
import Derived.Test.YtklkgicjfnbndaaGreatZU46
import Derived.Test.YtklkgicjfnbndaaGreatZU47
import Derived.Test.YtklkgicjfnbndaaGreatZU48
namespace Go.Proofs.YtklkgicjfnbndaaGreat
open Go.RowKit
set_option linter.unusedVariables false
set_option linter.unusedSimpArgs false
theorem back_ok {s:List Nat} (hs:IsPerm s) (hes:s.length % 2=0) {e:Nat} (h2:s.length=2*e) {W k l:Nat} (hW:W<3) (hk:k<s.length) (hl:l<s.length) (hb:wayB s W (k:Int) (l:Int)=true) (ht:IsPerm (wayL s W (k:Int) (l:Int))) {r:Nat} (hr:r<s.length):
  (W≠1→nth (namesL (wayL s W (k:Int) (l:Int))) (2*e)≠nth (namesL (wayL s W (k:Int) (l:Int))) (2*e+1)∧doneL (exL (wayL s W (k:Int) (l:Int)) e) e=s∧shrLone (wayL s W (k:Int) (l:Int)) e=0) ∧
  (W=1→doneL (wayL s W (k:Int) (l:Int)) e=s∧cutLone (wayL s W (k:Int) (l:Int)) e=0)∧rootL (wayL s W (k:Int) (l:Int)) e r=(r:Int)∧(wayL s W (k:Int) (l:Int)).length=s.length+2:=by
 rcases (by omega:W=0∨W=1∨W=2) with rfl|rfl|rfl
 ·have e1:wayL s 0 (k:Int) (l:Int)=leafL s k:=by show leafL s (k:Int).toNat=_;rw[Int.toNat_natCast]
  rw[e1] at ht ⊢
  exact⟨fun _=>⟨leaf_ne h2 hk ht,leaf_back hs h2 hk,leaf_lone hs h2 hk ht⟩,fun h=>by omega,root_last (leafL_length s k) h2 hr,leafL_length s k⟩
 ·have e1:wayL s 1 (k:Int) (l:Int)=chordL s k l:=by show chordL s (k:Int).toNat (l:Int).toNat=_;rw[Int.toNat_natCast,Int.toNat_natCast]
  rw[e1] at ht ⊢
  exact⟨fun h=>absurd rfl h,fun _=>⟨chord_back hs h2 hk hl,chord_lone hs h2 hk hl ht⟩,root_last (chord_length s k l) h2 hr,chord_length s k l⟩
 ·have e1:wayL s 2 (k:Int) (l:Int)=splitL s k:=by show splitL s (k:Int).toNat=_;rw[Int.toNat_natCast]
  rw[e1] at ht ⊢
  exact⟨fun _=>⟨split_ne hs hes h2 hk ht,split_back hs hes h2 hk,split_lone hs hes h2 hk ht⟩,fun h=>by omega,root_last (splitL_length s k) h2 hr,splitL_length s k⟩
set_option maxRecDepth 100000 in
set_option maxHeartbeats 2000000 in
theorem growBack_walk (w:World) (kd n root way d f:Nat) (hkd:kd≤255) (hn:n≤255) (hr:root≤255) (hway:way≤255) (hd:d≤255) (hf:f≤255) (v:Value) (bs:List Nat) (hv:FreeB noReg w v bs):
  Calls Tryz.prog 4 #[.int .u8 (kd:Int),.int .u8 (n:Int),v,.int .u8 (root:Int),.int .u8 (way:Int),.int .u8 (d:Int),.int .u8 (f:Int)] w (RetTrue noReg w):=by
 have HA:=Lib.hid (awake23_any noReg w (Inv.noReg w))
 have HMd:=Lib.hid (fun R' w' (h:Ev noReg w R' w')=>madeG_any R' w' h.inv kd n hkd hn v bs (hv.ev h) root hr)
 obtain⟨a0,c0,rfl,_,_⟩:=hv
 go_enter Tryz.func4,Tryz.ntmps4
 go_wp2_with fail
 refine HA.out.mono ?_
 rintro e w1 ⟨rfl,R1,he1⟩
 have HE1:=Lib.hid he1
 have HMd:=Lib.hid (HMd.out _ _ he1)
 clear he1
 go_wp2_with fail
 refine HMd.out.mono ?_
 rintro e w2 ⟨p,s,rt,ln,a,c,R2,rfl,he2,hp,hfr,hS,hok,hsl,hln,_⟩
 as_aux_lemma=>
  unfold refV
  obtain⟨N,hN⟩:∃ N,s.length=N:=⟨_,rfl⟩
  rw[hN] at hsl hfr ⊢
  have HN:=Lib.hid hN
  have HE2:=Lib.hid (HE1.out.trans he2)
  have HP:=Lib.hid hp
  have HS:=Lib.hid hS
  have HF:=Lib.hid hfr
  have HOk:=Lib.hid hok
  have hea:=HE2.out.alloc (.cells #[.slice a N c,.int .i64 rt,.int .i64 ln] 27)
  have hbx:=heap_alloc_new w2 (.cells #[.slice a N c,.int .i64 rt,.int .i64 ln] 27)
  have hnx:R2 w2.heap.size=none:=HE2.out.inv.none_of_ge (Nat.le_refl _)
  have hff:=(Ev.refl he2.inv).alloc (.cells #[.slice a N c,.int .i64 rt,.int .i64 ln] 27)
  have hfa:=hfr.ev hff
  go_upto_region 5 with fail
  obtain⟨wa,hwa⟩:∃ x,w2.alloc (.cells #[.slice a N c,.int .i64 rt,.int .i64 ln] 27)=x:=⟨_,rfl⟩
  obtain⟨b,hb⟩:∃ x,w2.heap.size=x:=⟨_,rfl⟩
  rw[hwa] at hea hbx hfa
  rw[hb] at hbx hnx
  try rw[hwa]
  try rw[hb]
  have HEa:=Lib.hid hea
  have HX:=Lib.hid (fun R' w' (h:Ev R2 wa R' w')=>boxC_cells (h.boxC3 hbx hnx).1)
  have HFa:=Lib.hid hfa
  have HDt:=Lib.hid (fun R' w' (h:Ev R2 wa R' w')=>darts_any R' w' h.inv p s rt ln (h.map HP.out))
  rw[HN.out] at HDt
  clear he2 hp hfr hS hok HMd HA hN hea hbx hnx hff hfa hwa hb
  by_cases h0:N=0
  ·have hz:((N:Int) == 0)=true:=beq_iff_eq.2 (by omega)
   obtain⟨x0,_⟩:=HX.out _ _ (Ev.refl HEa.out.inv)
   go_wp2_with fail
   refine (HDt.out _ _ (Ev.refl HEa.out.inv)).mono ?_
   rintro z w3 ⟨rfl,rfl⟩
   clear h0
   go_wp2_with fail
   go_ret
   exact⟨by first|rfl|simp,R2,HEa.out⟩
  ·have hz:((N:Int) == 0)=false:=beq_eq_false_iff_ne.2 (by omega)
   have hNp:0<N:=by omega
   obtain⟨k,hk⟩:∃ k,d % N=k:=⟨_,rfl⟩
   have hkN:k<N:=by rw[←hk];exact Nat.mod_lt _ hNp
   have hv0:IntKind.i64.wrap (d:Int)=(d:Int):=IntWalk.i64_in _ (by omega)
   have hr1:(d:Int).tmod (N:Int)=(k:Int):=by rw[←hk];rfl
   have hr2:(d:Int) % (N:Int)=(k:Int):=by rw[←hk];rfl
   obtain⟨l,hl⟩:∃ k,f % N=k:=⟨_,rfl⟩
   have hlN:l<N:=by rw[←hl];exact Nat.mod_lt _ hNp
   have hv1:IntKind.i64.wrap (f:Int)=(f:Int):=IntWalk.i64_in _ (by omega)
   have hr3:(f:Int).tmod (N:Int)=(l:Int):=by rw[←hl];rfl
   have hr4:(f:Int) % (N:Int)=(l:Int):=by rw[←hl];rfl
   obtain⟨W,hW⟩:∃ k,way % 3=k:=⟨_,rfl⟩
   have hWl:W<3:=by rw[←hW];exact Nat.mod_lt _ (by omega)
   have hr5:(way:Int).tmod 3=(W:Int):=by rw[←hW];rfl
   have hr6:(way:Int) % 3=(W:Int):=by rw[←hW];rfl
   have hv2:IntKind.i64.wrap (W:Int)=(W:Int):=IntWalk.i64_in _ (by omega)
   have hnz:¬ (N:Int)=0:=by omega
   have hnz':¬ N=0:=by omega
   have HK:=Lib.hid hkN
   have HL:=Lib.hid hlN
   have HW:=Lib.hid hWl
   clear h0 hk hkN hl hlN hW hWl hNp
   go_wp2_with fail
   refine (HDt.out _ _ (Ev.refl HEa.out.inv)).mono ?_
   rintro z w3 ⟨rfl,rfl⟩
   go_wp2_with fail
   have HDo:=Lib.hid (do_any R2 wa.drew HEa.out.drew.inv p s rt ln HP.out W (by have:=HW.out;omega) (k:Int) (l:Int))
   have HDd:=Lib.hid (HDt.out _ _ (Ev.refl HEa.out.inv).drew)
   have hwr:wayR s.length W (k:Int) (l:Int)=true:=by
    rw[HN.out]
    have h1:=inR_true HK.out
    have h2:=inR_true HL.out
    rcases (by have:=HW.out;omega:W=0∨W=1∨W=2) with e|e|e
    ·rw[e];exact h1
    ·rw[e];show (inR N (k:Int) && inR N (l:Int))=true;rw[h1,h2];rfl
    ·rw[e];exact h1
   have hwy:wayB s W (k:Int) (l:Int)=true→newErr (toI (wayL s W (k:Int) (l:Int))) rt ln=0:=fun hb=>way_err HS.out HOk.out (by have:=HN.out;omega) (by have:=HW.out;omega) hwr hb
   rw[hwr] at HDo
   have HWy:=Lib.hid hwy
   clear hwr hwy
   as_aux_lemma=>
    refine wp_region_held_drew (S:=(fun _:World=>True)) (by kernel_rfl) trivial (fun hHeld=>?_)
    refine tk 0 (v:=?fra_0) ?gra_0 ?_
    case gra_0=>(intro w' s0;go_simp;try with_reducible rfl)
    try simp only[Act.put,rd]
    refine tk 1 (v:=?fra_1) ?gra_1 ?_
    case gra_1=>(intro w' s0;go_simp;try with_reducible rfl)
    try simp only[Act.put,rd]
    refine tk 2 (v:=?fra_2) ?gra_2 ?_
    case gra_2=>(intro w' s0;go_simp;try with_reducible rfl)
    try simp only[Act.put,rd]
    refine tk 3 (v:=?fra_3) ?gra_3 ?_
    case gra_3=>(intro w' s0;go_simp;try with_reducible rfl)
    try simp only[Act.put,rd]
    refine tk 4 (v:=?fra_4) ?gra_4 ?_
    case gra_4=>(intro w' s0;go_simp;try with_reducible rfl)
    try simp only[Act.put,rd]
    refine tk 7 (v:=?fra_7) ?gra_7 ?_
    case gra_7=>(intro w' s0;go_simp;try with_reducible rfl)
    try simp only[Act.put,rd]
    refine tk 8 (v:=?fra_8) ?gra_8 ?_
    case gra_8=>(intro w' s0;go_simp;try with_reducible rfl)
    try simp only[Act.put,rd]
    refine tk 9 (v:=?fra_9) ?gra_9 ?_
    case gra_9=>(intro w' s0;go_simp;try with_reducible rfl)
    try simp only[Act.put,rd]
    refine nx 5 fun K hK=>?_
    go_simp
    refine HDd.out.mono ?_
    rintro z w4 ⟨rfl,rfl⟩
    go_simp
    refine hK.out _ _ trivial (fun hHeld2=>?_)
    clear hHeld
    refine tk 6 (v:=(.int .i64 (k:Int))) ?gra_6 ?_
    case gra_6=>(intro w' s0;go_simp;try with_reducible rfl)
    try simp only[Act.put,rd]
    refine nx 10 fun K hK=>?_
    go_simp
    refine HDd.out.mono ?_
    rintro z w4 ⟨rfl,rfl⟩
    go_simp
    refine hK.out _ _ trivial (fun hHeld3=>?_)
    clear hHeld2
    refine tk 11 (v:=(.int .i64 (l:Int))) ?gra_11 ?_
    case gra_11=>(intro w' s0;go_simp;try with_reducible rfl)
    try simp only[Act.put,rd]
    refine nx 12 fun K hK=>?_
    go_simp
    refine HDo.out.mono ?_
    rintro z w4 hk4
    rcases hk4.in_ HWy.out with ⟨hb,rfl,R4,he4⟩|⟨hb,q,R4,rfl,he4,hq⟩
    ·have hE4:=Lib.hid (HEa.out.drew.trans he4)
     have hW1:W=1:=by
      rcases (by have:=HW.out;omega:W=0∨W=1∨W=2) with e|e|e
      ·rw[e] at hb;cases hb
      ·exact e
      ·rw[e] at hb;cases hb
     have hw1:((W:Int) == 1)=true:=beq_iff_eq.2 (by omega)
     clear hb hk4 he4 hW1
     go_simp
     refine hK.out _ _ trivial (fun hHeld4=>?_)
     clear hHeld3
     refine tk 13 (v:=?frb_13) ?grb_13 ?_
     case grb_13=>(intro w' s0;go_simp;try with_reducible rfl)
     try simp only[Act.put,rd]
     refine tk 14 (v:=?frb_14) ?grb_14 ?_
     case grb_14=>(intro w' s0;go_simp;try with_reducible rfl)
     try simp only[Act.put,rd]
     refine tk 15 (v:=?frb_15) ?grb_15 ?_
     case grb_15=>(intro w' s0;go_simp;try with_reducible rfl)
     try simp only[Act.put,rd]
     refine tk 16 (v:=?frb_16) ?grb_16 ?_
     case grb_16=>(intro w' s0;go_simp;try with_reducible rfl)
     try simp only[Act.put,rd]
     refine tk 17 (v:=?frb_17) ?grb_17 ?_
     case grb_17=>(intro w' s0;go_simp;try with_reducible rfl)
     try simp only[Act.put,rd]
     refine wpAnyH_done (by kernel_rfl) ?_ _
     clear hHeld4
     as_aux_lemma=>
      go_wp2_with fail
      go_ret
      exact⟨by first|rfl|simp,R4,hE4.out⟩
    ·have HE4:=Lib.hid (HEa.out.drew.trans he4)
     have HE4a:=Lib.hid ((Ev.refl HEa.out.inv).drew.trans he4)
     have HQ:=Lib.hid hq
     have HB:=Lib.hid hb
     clear hb hk4 he4 hq
     go_simp
     refine hK.out _ _ trivial (fun hHeld4=>?_)
     clear hHeld3
     refine tk 13 (v:=?frc_13) ?grc_13 ?_
     case grc_13=>(intro w' s0;go_simp;try with_reducible rfl)
     try simp only[Act.put,rd]
     refine tk 14 (v:=?frc_14) ?grc_14 ?_
     case grc_14=>(intro w' s0;go_simp;try with_reducible rfl)
     try simp only[Act.put,rd]
     refine tk 15 (v:=?frc_15) ?grc_15 ?_
     case grc_15=>(intro w' s0;go_simp;try with_reducible rfl)
     try simp only[Act.put,rd]
     refine tk 16 (v:=?frc_16) ?grc_16 ?_
     case grc_16=>(intro w' s0;go_simp;try with_reducible rfl)
     try simp only[Act.put,rd]
     refine tk 17 (v:=?frc_17) ?grc_17 ?_
     case grc_17=>(intro w' s0;go_simp;try with_reducible rfl)
     try simp only[Act.put,rd]
     refine wpAnyH_done (by kernel_rfl) ?_ _
     clear hHeld4
     as_aux_lemma=>
      obtain⟨E,hE⟩:∃ x,N / 2=x:=⟨_,rfl⟩
      have h2E:s.length=2*E:=by have h1:=HOk.out.1;have h2:=HN.out;omega
      obtain⟨r,hrt⟩:∃ r:Nat,rt=(r:Int)∧r<s.length:=by
       have h1:=HOk.out.2.2.2.2
       have h2:=HN.out
       have h3:=HK.out
       exact⟨rt.toNat,by omega,by omega⟩
      obtain⟨hTp,hTok⟩:=HQ.out.ok HE4.out.inv
      have hlb:ln≤60000:=by omega
      obtain⟨b1,b2,b3,b4⟩:=back_ok HS.out HOk.out.1 h2E HW.out (by rw[HN.out];exact HK.out) (by rw[HN.out];exact HL.out) HB.out hTp hrt.2
      have hrl:rootL (wayL s W (k:Int) (l:Int)) E rt.toNat=rt:=by rw[hrt.1,Int.toNat_natCast,b3]
      obtain⟨T,hT⟩:∃ T,wayL s W (k:Int) (l:Int)=T:=⟨_,rfl⟩
      rw[hT] at b1 b2 b4 hrl hTp hTok
      have hQ:=HQ.out
      rw[hT] at hQ
      have hEl:E<T.length / 2:=by omega
      have HEd:=Lib.hid (fun R' w' (h:Ev R2 wa R' w')=>edges_any R' w' h.inv p s rt ln (h.map HP.out))
      rw[HN.out,hE] at HEd
      have HQT:=Lib.hid hQ
      have HBk:=Lib.hid (show (W≠1→nth (namesL T) (2*E)≠nth (namesL T) (2*E+1)∧doneL (exL T E) E=s∧shrLone T E=0)∧(W=1→doneL T E=s∧cutLone T E=0)∧rootL T E rt.toNat=rt from⟨b1,b2,hrl⟩)
      have HEl:=Lib.hid hEl
      have HLb:=Lib.hid hlb
      clear b1 b2 b3 b4 hrl hTp hTok hT hQ hEl hlb hrt h2E hE
      by_cases hc:W=1
      ·have hw1:((W:Int) == 1)=true:=beq_iff_eq.2 (by omega)
       have HW1:=Lib.hid hc
       have hsh:Calls Tryz.prog 20 #[q,.int .i64 (E:Int)] w4 (fun z w'=>∃ x c R',z=.returned (.tuple #[x,.int .i64 c])∧Ev R4 w4 R' w'):=by
        by_cases hnn:nth (namesL T) (2*E)=nth (namesL T) (2*E+1)
        ·exact (dshrink_loop R4 w4 HE4.out.inv q T rt ln HQT.out E HEl.out hnn).mono fun z w' ⟨h1,R',h2⟩=>⟨_,_,R',h1,h2⟩
        ·exact (shrink_any R4 w4 HE4.out.inv q T rt ln HQT.out E HEl.out HLb.out hnn).mono fun z w' ⟨x,R',h1,h2,_⟩=>⟨x,_,R',h1,h2⟩
       have HSh:=Lib.hid hsh
       clear hc hsh
       go_wp2_with fail
       refine (HEd.out _ _ HE4a.out).mono ?_
       rintro z w5 ⟨rfl,rfl⟩
       go_wp2_with fail
       refine HSh.out.mono ?_
       rintro z w5 ⟨x,cc,R5,rfl,he5⟩
       have HE5a:=Lib.hid (HE4a.out.trans he5)
       have HE5:=Lib.hid he5
       clear he5 HSh
       go_wp2_with fail
       refine (HEd.out _ _ HE5a.out).mono ?_
       rintro z w6 ⟨rfl,rfl⟩
       have hct:=cut_any R5 w5 HE5.out.inv q T rt ln (HE5.out.map HQT.out) E HEl.out HLb.out
       rw[(HBk.out.2.1 HW1.out).1,(HBk.out.2.1 HW1.out).2,HBk.out.2.2,Int.add_zero] at hct
       have HCt:=Lib.hid hct
       clear hct
       go_wp2_with fail
       refine HCt.out.mono ?_
       rintro z w6 ⟨y,R6,rfl,he6,hy⟩
       have HE6:=Lib.hid (HE5a.out.trans he6)
       have HY:=Lib.hid hy
       clear he6 hy HCt
       as_aux_lemma=>
        go_wp2_with fail
        have HD6:=Lib.hid HE6.out.drew
        have HSa:=Lib.hid (fun R' w' (h:Ev R2 wa R' w')=>(by
         obtain⟨y0,y1,y2,_⟩:=HX.out R' w' h
         exact⟨y0,y1,y2⟩:(fun w':World=>w'.cell? ⟨b,0,none⟩=some (.slice a N c)∧w'.cell? ⟨b,1,none⟩=some (.int .i64 rt)∧w'.cell? ⟨b,2,none⟩=some (.int .i64 ln)) w'))
        refine wp_region_held_drew (S:=(fun w':World=>w'.cell? ⟨b,0,none⟩=some (.slice a N c)∧w'.cell? ⟨b,1,none⟩=some (.int .i64 rt)∧w'.cell? ⟨b,2,none⟩=some (.int .i64 ln))) (by kernel_rfl) (HSa.out _ _ HD6.out) (fun hHeld=>?_)
        refine tk 0 (v:=?frd_0) ?grd_0 ?_
        case grd_0=>(intro w' ⟨s0,s1,s2⟩;go_simp;try with_reducible rfl)
        try simp only[Act.put,rd]
        refine tk 1 (v:=(.bool true)) ?grd_1 ?_
        case grd_1=>(intro w' ⟨s0,s1,s2⟩;go_simp;try with_reducible rfl)
        try simp only[Act.put,rd]
        refine tk 2 (v:=(.bool true)) ?grd_2 ?_
        case grd_2=>(intro w' ⟨s0,s1,s2⟩;go_simp;try with_reducible rfl)
        try simp only[Act.put,rd]
        refine tk 3 (v:=?frd_3) ?grd_3 ?_
        case grd_3=>(intro w' ⟨s0,s1,s2⟩;go_simp;try with_reducible rfl)
        try simp only[Act.put,rd]
        refine tk 5 (v:=?frd_5) ?grd_5 ?_
        case grd_5=>(intro w' ⟨s0,s1,s2⟩;go_simp;try with_reducible rfl)
        try simp only[Act.put,rd]
        refine tk 6 (v:=?frd_6) ?grd_6 ?_
        case grd_6=>(intro w' ⟨s0,s1,s2⟩;go_simp;try with_reducible rfl)
        try simp only[Act.put,rd]
        refine nx 4 fun K hK=>?_
        go_simp
        refine (mlist_any R6 w6.drew HD6.out.inv y s rt ln HY.out).mono ?_
        rintro z w7 ⟨v7,rfl,he7,ho7⟩
        obtain⟨a7,c7,rfl,_⟩:=ho7.ints.open
        rw[toI_length,HN.out] at ho7 ⊢
        have HE7:=Lib.hid (HD6.out.trans he7)
        have HO7:=Lib.hid ho7
        have HY7:=Lib.hid (he7.map HY.out)
        clear he7 ho7
        go_simp
        refine hK.out _ _ (HSa.out _ _ HE7.out) (fun hHeld2=>?_)
        clear hHeld
        refine nx 7 fun K hK=>?_
        go_simp
        refine (equal_any R6 w7 HE7.out.inv _ _ (toI s) (toI s) HO7.out.ints (HFa.out.ev HE7.out).1 (by rw[toI_length,HN.out];omega) (by rw[toI_length,HN.out];omega)).mono ?_
        rintro z w8 ⟨rfl,he8⟩
        rw[show eqL (toI s) (toI s)=true from by simp[eqL]]
        have HE8:=Lib.hid (HE7.out.trans he8)
        have HY8:=Lib.hid (he8.map HY7.out)
        clear he8
        go_simp
        refine hK.out _ _ (HSa.out _ _ HE8.out) (fun hHeld3=>?_)
        clear hHeld2
        refine tk 8 (v:=(.bool true)) ?grd_8 ?_
        case grd_8=>(intro w' ⟨s0,s1,s2⟩;go_simp;try with_reducible rfl)
        try simp only[Act.put,rd]
        refine tk 9 (v:=(.bool true)) ?grd_9 ?_
        case grd_9=>(intro w' ⟨s0,s1,s2⟩;go_simp;try with_reducible rfl)
        try simp only[Act.put,rd]
        refine tk 10 (v:=?frd_10) ?grd_10 ?_
        case grd_10=>(intro w' ⟨s0,s1,s2⟩;go_simp;try with_reducible rfl)
        try simp only[Act.put,rd]
        refine tk 12 (v:=?frd_12) ?grd_12 ?_
        case grd_12=>(intro w' ⟨s0,s1,s2⟩;go_simp;try with_reducible rfl)
        try simp only[Act.put,rd]
        refine tk 13 (v:=?frd_13) ?grd_13 ?_
        case grd_13=>(intro w' ⟨s0,s1,s2⟩;go_simp;try with_reducible rfl)
        try simp only[Act.put,rd]
        refine nx 11 fun K hK=>?_
        go_simp
        refine (root_any R6 w8 HE8.out.inv y s rt ln HY8.out).mono ?_
        rintro z w9 ⟨rfl,rfl⟩
        go_simp
        refine hK.out _ _ (HSa.out _ _ HE8.out) (fun hHeld4=>?_)
        clear hHeld3
        refine tk 14 (v:=(.bool true)) ?grd_14 ?_
        case grd_14=>(intro w' ⟨s0,s1,s2⟩;go_simp;try with_reducible rfl)
        try simp only[Act.put,rd]
        refine tk 15 (v:=(.bool true)) ?grd_15 ?_
        case grd_15=>(intro w' ⟨s0,s1,s2⟩;go_simp;try with_reducible rfl)
        try simp only[Act.put,rd]
        refine tk 16 (v:=(.bool true)) ?grd_16 ?_
        case grd_16=>(intro w' ⟨s0,s1,s2⟩;go_simp;try with_reducible rfl)
        try simp only[Act.put,rd]
        refine tk 17 (v:=?frd_17) ?grd_17 ?_
        case grd_17=>(intro w' ⟨s0,s1,s2⟩;go_simp;try with_reducible rfl)
        try simp only[Act.put,rd]
        refine tk 19 (v:=?frd_19) ?grd_19 ?_
        case grd_19=>(intro w' ⟨s0,s1,s2⟩;go_simp;try with_reducible rfl)
        try simp only[Act.put,rd]
        refine tk 20 (v:=?frd_20) ?grd_20 ?_
        case grd_20=>(intro w' ⟨s0,s1,s2⟩;go_simp;try with_reducible rfl)
        try simp only[Act.put,rd]
        refine nx 18 fun K hK=>?_
        go_simp
        refine (lone_any R6 w8 HE8.out.inv y s rt ln HY8.out).mono ?_
        rintro z w9 ⟨rfl,rfl⟩
        go_simp
        refine hK.out _ _ (HSa.out _ _ HE8.out) (fun hHeld5=>?_)
        clear hHeld4
        refine tk 21 (v:=(.bool true)) ?grd_21 ?_
        case grd_21=>(intro w' ⟨s0,s1,s2⟩;go_simp;try with_reducible rfl)
        try simp only[Act.put,rd]
        refine tk 22 (v:=(.bool true)) ?grd_22 ?_
        case grd_22=>(intro w' ⟨s0,s1,s2⟩;go_simp;try with_reducible rfl)
        try simp only[Act.put,rd]
        refine tk 23 (v:=(.bool true)) ?grd_23 ?_
        case grd_23=>(intro w' ⟨s0,s1,s2⟩;go_simp;try with_reducible rfl)
        try simp only[Act.put,rd]
        refine wpAnyH_done (by kernel_rfl) ?_ _
        clear hHeld5
        as_aux_lemma=>
         go_wp2_with fail
         go_ret
         exact⟨by first|rfl|simp,R6,HEa.out.trans HE8.out⟩
      ·have hw1:((W:Int) == 1)=false:=beq_eq_false_iff_ne.2 (by omega)
       have HW1:=Lib.hid hc
       have hsh:=shrink_any R4 w4 HE4.out.inv q T rt ln HQT.out E HEl.out HLb.out (HBk.out.1 hc).1
       rw[(HBk.out.1 hc).2.1,(HBk.out.1 hc).2.2,HBk.out.2.2,Int.add_zero] at hsh
       have HSh:=Lib.hid hsh
       clear hc hsh
       go_wp2_with fail
       refine (HEd.out _ _ HE4a.out).mono ?_
       rintro z w5 ⟨rfl,rfl⟩
       go_wp2_with fail
       refine HSh.out.mono ?_
       rintro z w6 ⟨y,R6,rfl,he6,hy⟩
       have HE6:=Lib.hid (HE4a.out.trans he6)
       have HY:=Lib.hid hy
       clear he6 hy HSh
       as_aux_lemma=>
        go_wp2_with fail
        have HD6:=Lib.hid HE6.out.drew
        have HSa:=Lib.hid (fun R' w' (h:Ev R2 wa R' w')=>(by
         obtain⟨y0,y1,y2,_⟩:=HX.out R' w' h
         exact⟨y0,y1,y2⟩:(fun w':World=>w'.cell? ⟨b,0,none⟩=some (.slice a N c)∧w'.cell? ⟨b,1,none⟩=some (.int .i64 rt)∧w'.cell? ⟨b,2,none⟩=some (.int .i64 ln)) w'))
        refine wp_region_held_drew (S:=(fun w':World=>w'.cell? ⟨b,0,none⟩=some (.slice a N c)∧w'.cell? ⟨b,1,none⟩=some (.int .i64 rt)∧w'.cell? ⟨b,2,none⟩=some (.int .i64 ln))) (by kernel_rfl) (HSa.out _ _ HD6.out) (fun hHeld=>?_)
        refine tk 0 (v:=?fre_0) ?gre_0 ?_
        case gre_0=>(intro w' ⟨s0,s1,s2⟩;go_simp;try with_reducible rfl)
        try simp only[Act.put,rd]
        refine tk 1 (v:=(.bool true)) ?gre_1 ?_
        case gre_1=>(intro w' ⟨s0,s1,s2⟩;go_simp;try with_reducible rfl)
        try simp only[Act.put,rd]
        refine tk 2 (v:=(.bool true)) ?gre_2 ?_
        case gre_2=>(intro w' ⟨s0,s1,s2⟩;go_simp;try with_reducible rfl)
        try simp only[Act.put,rd]
        refine tk 3 (v:=?fre_3) ?gre_3 ?_
        case gre_3=>(intro w' ⟨s0,s1,s2⟩;go_simp;try with_reducible rfl)
        try simp only[Act.put,rd]
        refine tk 5 (v:=?fre_5) ?gre_5 ?_
        case gre_5=>(intro w' ⟨s0,s1,s2⟩;go_simp;try with_reducible rfl)
        try simp only[Act.put,rd]
        refine tk 6 (v:=?fre_6) ?gre_6 ?_
        case gre_6=>(intro w' ⟨s0,s1,s2⟩;go_simp;try with_reducible rfl)
        try simp only[Act.put,rd]
        refine nx 4 fun K hK=>?_
        go_simp
        refine (mlist_any R6 w6.drew HD6.out.inv y s rt ln HY.out).mono ?_
        rintro z w7 ⟨v7,rfl,he7,ho7⟩
        obtain⟨a7,c7,rfl,_⟩:=ho7.ints.open
        rw[toI_length,HN.out] at ho7 ⊢
        have HE7:=Lib.hid (HD6.out.trans he7)
        have HO7:=Lib.hid ho7
        have HY7:=Lib.hid (he7.map HY.out)
        clear he7 ho7
        go_simp
        refine hK.out _ _ (HSa.out _ _ HE7.out) (fun hHeld2=>?_)
        clear hHeld
        refine nx 7 fun K hK=>?_
        go_simp
        refine (equal_any R6 w7 HE7.out.inv _ _ (toI s) (toI s) HO7.out.ints (HFa.out.ev HE7.out).1 (by rw[toI_length,HN.out];omega) (by rw[toI_length,HN.out];omega)).mono ?_
        rintro z w8 ⟨rfl,he8⟩
        rw[show eqL (toI s) (toI s)=true from by simp[eqL]]
        have HE8:=Lib.hid (HE7.out.trans he8)
        have HY8:=Lib.hid (he8.map HY7.out)
        clear he8
        go_simp
        refine hK.out _ _ (HSa.out _ _ HE8.out) (fun hHeld3=>?_)
        clear hHeld2
        refine tk 8 (v:=(.bool true)) ?gre_8 ?_
        case gre_8=>(intro w' ⟨s0,s1,s2⟩;go_simp;try with_reducible rfl)
        try simp only[Act.put,rd]
        refine tk 9 (v:=(.bool true)) ?gre_9 ?_
        case gre_9=>(intro w' ⟨s0,s1,s2⟩;go_simp;try with_reducible rfl)
        try simp only[Act.put,rd]
        refine tk 10 (v:=?fre_10) ?gre_10 ?_
        case gre_10=>(intro w' ⟨s0,s1,s2⟩;go_simp;try with_reducible rfl)
        try simp only[Act.put,rd]
        refine tk 12 (v:=?fre_12) ?gre_12 ?_
        case gre_12=>(intro w' ⟨s0,s1,s2⟩;go_simp;try with_reducible rfl)
        try simp only[Act.put,rd]
        refine tk 13 (v:=?fre_13) ?gre_13 ?_
        case gre_13=>(intro w' ⟨s0,s1,s2⟩;go_simp;try with_reducible rfl)
        try simp only[Act.put,rd]
        refine nx 11 fun K hK=>?_
        go_simp
        refine (root_any R6 w8 HE8.out.inv y s rt ln HY8.out).mono ?_
        rintro z w9 ⟨rfl,rfl⟩
        go_simp
        refine hK.out _ _ (HSa.out _ _ HE8.out) (fun hHeld4=>?_)
        clear hHeld3
        refine tk 14 (v:=(.bool true)) ?gre_14 ?_
        case gre_14=>(intro w' ⟨s0,s1,s2⟩;go_simp;try with_reducible rfl)
        try simp only[Act.put,rd]
        refine tk 15 (v:=(.bool true)) ?gre_15 ?_
        case gre_15=>(intro w' ⟨s0,s1,s2⟩;go_simp;try with_reducible rfl)
        try simp only[Act.put,rd]
        refine tk 16 (v:=(.bool true)) ?gre_16 ?_
        case gre_16=>(intro w' ⟨s0,s1,s2⟩;go_simp;try with_reducible rfl)
        try simp only[Act.put,rd]
        refine tk 17 (v:=?fre_17) ?gre_17 ?_
        case gre_17=>(intro w' ⟨s0,s1,s2⟩;go_simp;try with_reducible rfl)
        try simp only[Act.put,rd]
        refine tk 19 (v:=?fre_19) ?gre_19 ?_
        case gre_19=>(intro w' ⟨s0,s1,s2⟩;go_simp;try with_reducible rfl)
        try simp only[Act.put,rd]
        refine tk 20 (v:=?fre_20) ?gre_20 ?_
        case gre_20=>(intro w' ⟨s0,s1,s2⟩;go_simp;try with_reducible rfl)
        try simp only[Act.put,rd]
        refine nx 18 fun K hK=>?_
        go_simp
        refine (lone_any R6 w8 HE8.out.inv y s rt ln HY8.out).mono ?_
        rintro z w9 ⟨rfl,rfl⟩
        go_simp
        refine hK.out _ _ (HSa.out _ _ HE8.out) (fun hHeld5=>?_)
        clear hHeld4
        refine tk 21 (v:=(.bool true)) ?gre_21 ?_
        case gre_21=>(intro w' ⟨s0,s1,s2⟩;go_simp;try with_reducible rfl)
        try simp only[Act.put,rd]
        refine tk 22 (v:=(.bool true)) ?gre_22 ?_
        case gre_22=>(intro w' ⟨s0,s1,s2⟩;go_simp;try with_reducible rfl)
        try simp only[Act.put,rd]
        refine tk 23 (v:=(.bool true)) ?gre_23 ?_
        case gre_23=>(intro w' ⟨s0,s1,s2⟩;go_simp;try with_reducible rfl)
        try simp only[Act.put,rd]
        refine wpAnyH_done (by kernel_rfl) ?_ _
        clear hHeld5
        as_aux_lemma=>
         go_wp2_with fail
         go_ret
         exact⟨by first|rfl|simp,R6,HEa.out.trans HE8.out⟩
end Go.Proofs.YtklkgicjfnbndaaGreat
