/- GrowPlays, the walk: it answers true. Conditions: none. -/
import Derived.Test.YtklkgicjfnbndaaZGrowPlays42
import Derived.Test.YtklkgicjfnbndaaZGrowPlays38
import Derived.Test.YtklkgicjfnbndaaZGrowPlays41
import Derived.Test.YtklkgicjfnbndaaZGrowPlays36
namespace Go.Proofs.Ytklkgicjfnbndaa
open Go.RowKit
set_option linter.unusedVariables false
set_option linter.unusedSimpArgs false
def codeW (a b:Bool):Int:=if a=false then 1 else if b=false then 8 else 0
theorem WayPost.code {R:Reg} {w w':World} {a b:Bool} {L:List Nat} {root lone:Int} {e:Ending} (k:WayPost R w a b L root lone e w') (h0:a=true→b=true→newErr (toI L) root lone=0):
  ∃ q R',e=.returned (.tuple #[q,.int .i64 (codeW a b)])∧Ev R w R' w'∧(codeW a b≠0→q=.pointer none)∧(codeW a b=0→MapAt R' q L root lone):=by
 rcases k with ⟨rfl,rfl,R',h⟩|⟨rfl,rfl,rfl,R',h⟩|⟨rfl,rfl,h⟩
 ·exact⟨_,R',rfl,h,fun _=>rfl,fun e=>by cases e⟩
 ·exact⟨_,R',rfl,h,fun _=>rfl,fun e=>by cases e⟩
 ·rcases h with ⟨h3,_⟩|⟨_,S,p,R',hS,hl,hok,he,hev,hm⟩
  ·exact absurd (h0 rfl rfl) h3
  ·obtain rfl:=toI_inj hl
   exact⟨p,R',he,hev,fun e=>absurd rfl e,fun _=>hm⟩
theorem DoPost.code {R:Reg} {w w2:World} {v:Value} {s L:List Nat} {root lone:Int} {a b:Bool} {z:Ending} (h:DoPost R w v root lone a b L z w2) (hv:FreeI R w v (toI s)):
  ∃ y,z=.returned (.tuple #[refV y root lone,.int .i64 (codeW a b)])∧Ev R w R w2∧FreeI R w2 y (toI (if codeW a b=0 then L else s)):=by
 rcases h with ⟨rfl,rfl,h⟩|⟨rfl,rfl,rfl,h⟩|⟨rfl,rfl,a1,c1,rfl,h,ho⟩
 ·exact⟨v,rfl,h,by rw[if_neg (show ¬ codeW false b=0 by simp[codeW])];exact hv.ev h⟩
 ·exact⟨v,rfl,h,by rw[if_neg (show ¬ codeW true false=0 by decide)];exact hv.ev h⟩
 ·exact⟨_,rfl,h,by rw[if_pos (show codeW true true=0 from rfl)];exact ho.free⟩
set_option maxRecDepth 100000 in
set_option maxHeartbeats 2000000 in
theorem growPlays_walk (w:World) (kd n root way:Nat) (d f:Int) (hkd:kd≤255) (hn:n≤255) (hr:root≤255) (hway:way≤255) (v:Value) (bs:List Nat) (hv:FreeB noReg w v bs):
  Calls Try.prog 3 #[.int .u8 (kd:Int),.int .u8 (n:Int),v,.int .u8 (root:Int),.int .u8 (way:Int),.int .i64 d,.int .i64 f] w (RetTrue noReg w):=by
 have HA:=Lib.hid (awake23_any noReg w (Inv.noReg w))
 have HMd:=Lib.hid (fun R' w' (h:Ev noReg w R' w')=>madeG_any R' w' h.inv kd n hkd hn v bs (hv.ev h) root hr)
 obtain⟨a0,c0,rfl,_,_⟩:=hv
 go_enter Try.func3,Try.ntmps3
 go_wp2_with fail
 refine HA.out.mono ?_
 rintro e w1 ⟨rfl,R1,he1⟩
 have HE1:=Lib.hid he1
 have HMd:=Lib.hid (HMd.out _ _ he1)
 clear he1
 go_wp2_with fail
 refine HMd.out.mono ?_
 rintro e w2 ⟨p,s,rt,ln,a,c,R2,rfl,he2,hp,hfr,hS,hok,hsl,hln,_⟩
 as_aux_lemma=>
  unfold refV
  obtain⟨N,hN⟩:∃ N,s.length=N:=⟨_,rfl⟩
  rw[hN] at hsl hfr ⊢
  have HN:=Lib.hid hN
  have HE2:=Lib.hid (HE1.out.trans he2)
  have HP:=Lib.hid hp
  have HS:=Lib.hid hS
  have HOk:=Lib.hid hok
  have hea:=HE2.out.alloc (.cells #[.slice a N c,.int .i64 rt,.int .i64 ln] 27)
  have hbx:=heap_alloc_new w2 (.cells #[.slice a N c,.int .i64 rt,.int .i64 ln] 27)
  have hnx:R2 w2.heap.size=none:=HE2.out.inv.none_of_ge (Nat.le_refl _)
  have hfa:=hfr.ev ((Ev.refl he2.inv).alloc (.cells #[.slice a N c,.int .i64 rt,.int .i64 ln] 27))
  go_upto_region 5 with fail
  obtain⟨wa,hwa⟩:∃ x,w2.alloc (.cells #[.slice a N c,.int .i64 rt,.int .i64 ln] 27)=x:=⟨_,rfl⟩
  obtain⟨b,hb⟩:∃ x,w2.heap.size=x:=⟨_,rfl⟩
  rw[hwa] at hea hbx hfa
  rw[hb] at hbx hnx
  try rw[hwa]
  try rw[hb]
  have HEa:=Lib.hid hea
  have HX:=Lib.hid (fun R' w' (h:Ev R2 wa R' w')=>boxC_cells (h.boxC3 hbx hnx).1)
  have HF:=Lib.hid hfa
  clear he2 hp hfr hS hok HMd HA hN hea hbx hnx hfa hwa hb
  obtain⟨W,hW⟩:∃ k,way % 5=k:=⟨_,rfl⟩
  have hWl:W<5:=by rw[←hW];exact Nat.mod_lt _ (by omega)
  have hr5:(way:Int).tmod 5=(W:Int):=by rw[←hW];rfl
  have hr6:(way:Int) % 5=(W:Int):=by rw[←hW];rfl
  have hv2:IntKind.i64.wrap (W:Int)=(W:Int):=IntWalk.i64_in _ (by omega)
  have HDo:=Lib.hid (do_any R2 wa HEa.out.inv p s rt ln HP.out W hWl d f)
  have HRd:=Lib.hid (fun R' w' (h:Ev R2 wa R' w')=>r23do_any R' w' h.inv (.slice a N c) s rt ln (HF.out.ev h) HS.out (by rw[HN.out];omega) HOk.out.1 W hWl d f (fun _ D _ hD=>by have:=(starL_grown HS.out HOk.out.1 hD).2;have:=HN.out;omega))
  have HWe:=Lib.hid (fun (h1:wayR s.length W d f=true) (h2:wayB s W d f=true)=>way_err HS.out HOk.out (by have:=HN.out;omega) hWl h1 h2)
  have HW:=Lib.hid hWl
  unfold refV at HRd
  clear hW hWl
  obtain⟨x0,x1,x2,_⟩:=HX.out _ _ (Ev.refl HEa.out.inv)
  go_wp2_with fail
  refine HDo.out.mono ?_
  rintro e we hk4
  obtain⟨o,R3,rfl,heo,hon,hom⟩:=hk4.code HWe.out
  have HEo:=Lib.hid heo
  have HOn:=Lib.hid hon
  have HOm:=Lib.hid hom
  clear hk4 heo hon hom HDo x0 x1 x2
  as_aux_lemma=>
   obtain⟨x0,x1,x2,_⟩:=HX.out _ _ HEo.out
   go_wp2_with fail
   refine (HRd.out _ _ HEo.out).mono ?_
   rintro e wf hk5
   obtain⟨y,rfl,hef,hfy⟩:=hk5.code (HF.out.ev HEo.out)
   obtain⟨C,hC⟩:∃ C,codeW (wayR s.length W d f) (wayB s W d f)=C:=⟨_,rfl⟩
   obtain⟨M,hM⟩:∃ M,wayL s W d f=M:=⟨_,rfl⟩
   have hn2:=HOn.out
   have hm2:=HOm.out
   rw[hC] at hn2 hm2 hfy ⊢
   rw[hM] at hm2 hfy
   obtain⟨L,hL⟩:∃ L,(if C=0 then M else s)=L:=⟨_,rfl⟩
   rw[hL] at hfy
   obtain⟨LL,hLL⟩:∃ n,L.length=n:=⟨_,rfl⟩
   obtain⟨ay,cy,rfl,hfy'⟩:=hfy.open
   clear hfy' hk5
   rw[toI_length,hLL] at hfy ⊢
   have HL:=Lib.hid hL
   have HLL:=Lib.hid hLL
   have HOn:=Lib.hid hn2
   have HOm:=Lib.hid (fun h=>hef.map (hm2 h))
   have HEf:=Lib.hid (HEo.out.trans hef)
   have HFy:=Lib.hid hfy
   have HP4:=Lib.hid ((HEo.out.trans hef).map HP.out)
   clear hn2 hm2 hC hM hL hLL hef hfy x0 x1 x2 HRd HWe
   unfold refV
   have hby:=heap_alloc_new wf (.cells #[.slice ay LL cy,.int .i64 rt,.int .i64 ln] 27)
   have heb:Ev R3 wf R3 (wf.alloc (.cells #[.slice ay LL cy,.int .i64 rt,.int .i64 ln] 27)):=(Ev.refl HEf.out.inv).alloc _
   have hnone:R3 wf.heap.size=none:=HEf.out.inv.none_of_ge (Nat.le_refl _)
   go_upto_region 9 with fail
   obtain⟨w5,hw5⟩:∃ x,wf.alloc (.cells #[.slice ay LL cy,.int .i64 rt,.int .i64 ln] 27)=x:=⟨_,rfl⟩
   obtain⟨b5,hb5⟩:∃ x,wf.heap.size=x:=⟨_,rfl⟩
   have hlt5:b5<w5.heap.size:=by rw[←hw5,←hb5];simp
   try rw[hw5]
   try rw[hb5]
   rw[hw5,hb5] at hby
   rw[hw5] at heb
   rw[hb5] at hnone
   have HE5:=Lib.hid heb
   have HEx:=Lib.hid (HEf.out.trans heb)
   have HSa:=Lib.hid (fun R' w' (h:Ev R3 w5 R' w')=>(by
    have hb:w'.heap[b5]?=some (.cells #[.slice ay LL cy,.int .i64 rt,.int .i64 ln] 27 (0,0)):=(h.block _ hlt5 hnone).trans hby
    obtain⟨y0,_,_,_⟩:=boxC_cells hb
    obtain⟨z0,z1,z2,_⟩:=HX.out R' w' (HEx.out.trans h)
    exact⟨z0,z1,z2,y0⟩:(fun w':World=>w'.cell? ⟨b,0,none⟩=some (.slice a N c)∧w'.cell? ⟨b,1,none⟩=some (.int .i64 rt)∧w'.cell? ⟨b,2,none⟩=some (.int .i64 ln)∧w'.cell? ⟨b5,0,none⟩=some (.slice ay LL cy)) w'))
   have HF5:=Lib.hid (HF.out.ev HEx.out)
   have HY5:=Lib.hid (HFy.out.ev heb)
   have HM5:=Lib.hid (heb.map HP4.out)
   have HOp:=Lib.hid (fun h:C=0=>heb.map (HOm.out h))
   clear hby heb hnone hlt5 hw5 hb5 HF HFy HP4
   have HEd':=Lib.hid ((Ev.refl HE5.out.inv).drew)
   as_aux_lemma=>
    refine wp_region_held_drew (S:=(fun w':World=>w'.cell? ⟨b,0,none⟩=some (.slice a N c)∧w'.cell? ⟨b,1,none⟩=some (.int .i64 rt)∧w'.cell? ⟨b,2,none⟩=some (.int .i64 ln)∧w'.cell? ⟨b5,0,none⟩=some (.slice ay LL cy))) (by kernel_rfl) (HSa.out _ _ HEd'.out) (fun hHeld=>?_)
    refine tk 0 (v:=?fpa_0) ?gpa_0 ?_
    case gpa_0=>(intro w' ⟨s0,s1,s2,s3⟩;go_simp;try with_reducible rfl)
    try simp only[Act.put,rd]
    refine tk 1 (v:=?fpa_1) ?gpa_1 ?_
    case gpa_1=>(intro w' ⟨s0,s1,s2,s3⟩;go_simp;try with_reducible rfl)
    try simp only[Act.put,rd]
    refine tk 2 (v:=(.bool false)) ?gpa_2 ?_
    case gpa_2=>(intro w' ⟨s0,s1,s2,s3⟩;go_simp;try with_reducible rfl)
    try simp only[Act.put,rd]
    refine tk 3 (v:=(.bool false)) ?gpa_3 ?_
    case gpa_3=>(intro w' ⟨s0,s1,s2,s3⟩;go_simp;try with_reducible rfl)
    try simp only[Act.put,rd]
    refine tk 4 (v:=?fpa_4) ?gpa_4 ?_
    case gpa_4=>(intro w' ⟨s0,s1,s2,s3⟩;go_simp;try with_reducible rfl)
    try simp only[Act.put,rd]
    refine tk 6 (v:=?fpa_6) ?gpa_6 ?_
    case gpa_6=>(intro w' ⟨s0,s1,s2,s3⟩;go_simp;try with_reducible rfl)
    try simp only[Act.put,rd]
    refine tk 7 (v:=?fpa_7) ?gpa_7 ?_
    case gpa_7=>(intro w' ⟨s0,s1,s2,s3⟩;go_simp;try with_reducible rfl)
    try simp only[Act.put,rd]
    refine nx 5 fun K hK=>?_
    go_simp
    refine (mlist_any R3 w5.drew HEd'.out.inv p s rt ln (HEd'.out.map HM5.out)).mono ?_
    rintro z w6 ⟨v6,rfl,he6,ho6⟩
    obtain⟨a8,c8,rfl,_⟩:=ho6.ints.open
    rw[toI_length,HN.out] at ho6 ⊢
    have HG6:=Lib.hid (HEd'.out.trans he6)
    have HO6:=Lib.hid ho6
    clear he6 ho6
    go_simp
    refine hK.out _ _ (HSa.out _ _ HG6.out) (fun hHeld2=>?_)
    clear hHeld
    refine nx 8 fun K hK=>?_
    go_simp
    refine (equal_any R3 w6 HG6.out.inv _ _ (toI s) (toI s) HO6.out.ints (HF5.out.ev HG6.out).1 (by rw[toI_length,HN.out];omega) (by rw[toI_length,HN.out];omega)).mono ?_
    rintro z w7 ⟨rfl,he7⟩
    rw[show eqL (toI s) (toI s)=true from by simp[eqL]]
    have HG7:=Lib.hid (HG6.out.trans he7)
    clear he7
    go_simp
    refine hK.out _ _ (HSa.out _ _ HG7.out) (fun hHeld3=>?_)
    clear hHeld2
    refine tk 9 (v:=(.bool false)) ?gpa_9 ?_
    case gpa_9=>(intro w' ⟨s0,s1,s2,s3⟩;go_simp;try with_reducible rfl)
    try simp only[Act.put,rd]
    refine tk 10 (v:=(.bool false)) ?gpa_10 ?_
    case gpa_10=>(intro w' ⟨s0,s1,s2,s3⟩;go_simp;try with_reducible rfl)
    try simp only[Act.put,rd]
    refine wpAnyH_done (by kernel_rfl) ?_ _
    clear hHeld3
    by_cases hC:C=0
    ·have hc1:(C != 0)=false:=by rw[hC];rfl
     have hc2:(C == 0)=true:=by rw[hC];rfl
     as_aux_lemma=>
      obtain rfl:M=L:=by have:=HL.out;rw[if_pos hC] at this;exact this
      have HOq:=Lib.hid (HG7.out.map (HOp.out hC))
      have HEg:=Lib.hid ((Ev.refl HG7.out.inv).drew)
      have HG8:=Lib.hid (HG7.out.trans HEg.out)
      have hMl:LL≤4194304:=by
       have h1:=(HOq.out.ok HG7.out.inv).2
       unfold MapOk at h1
       have:=HLL.out
       omega
      clear HL HOp HOn HOm hC
      go_upto_region 13 with fail
      refine wp_region_held_drew (S:=(fun w':World=>w'.cell? ⟨b,0,none⟩=some (.slice a N c)∧w'.cell? ⟨b,1,none⟩=some (.int .i64 rt)∧w'.cell? ⟨b,2,none⟩=some (.int .i64 ln)∧w'.cell? ⟨b5,0,none⟩=some (.slice ay LL cy))) (by kernel_rfl) (HSa.out _ _ HG8.out) (fun hHeld=>?_)
      refine tk 0 (v:=?fpb_0) ?gpb_0 ?_
      case gpb_0=>(intro w' ⟨s0,s1,s2,s3⟩;go_simp;try with_reducible rfl)
      try simp only[Act.put,rd]
      refine tk 2 (v:=?fpb_2) ?gpb_2 ?_
      case gpb_2=>(intro w' ⟨s0,s1,s2,s3⟩;go_simp;try with_reducible rfl)
      try simp only[Act.put,rd]
      refine tk 3 (v:=?fpb_3) ?gpb_3 ?_
      case gpb_3=>(intro w' ⟨s0,s1,s2,s3⟩;go_simp;try with_reducible rfl)
      try simp only[Act.put,rd]
      refine nx 1 fun K hK=>?_
      go_simp
      refine (mlist_any R3 w7.drew HEg.out.inv o M rt ln (HEg.out.map HOq.out)).mono ?_
      rintro z w8 ⟨v8,rfl,he8,ho8⟩
      obtain⟨a9,c9,rfl,_⟩:=ho8.ints.open
      rw[toI_length,HLL.out] at ho8 ⊢
      have HG9:=Lib.hid (HG8.out.trans he8)
      have HO8:=Lib.hid ho8
      have HQ8:=Lib.hid (he8.map (HEg.out.map HOq.out))
      clear he8 ho8
      go_simp
      refine hK.out _ _ (HSa.out _ _ HG9.out) (fun hHeld4=>?_)
      clear hHeld
      refine nx 4 fun K hK=>?_
      go_simp
      refine (equal_any R3 w8 HG9.out.inv _ _ (toI M) (toI M) HO8.out.ints (HY5.out.ev HG9.out).1 (by rw[toI_length,HLL.out];omega) (by rw[toI_length,HLL.out];omega)).mono ?_
      rintro z w9 ⟨rfl,he9⟩
      rw[show eqL (toI M) (toI M)=true from by simp[eqL]]
      have HG10:=Lib.hid (HG9.out.trans he9)
      have HQ9:=Lib.hid (he9.map HQ8.out)
      clear he9
      go_simp
      refine hK.out _ _ (HSa.out _ _ HG10.out) (fun hHeld5=>?_)
      clear hHeld4
      refine tk 5 (v:=(.bool true)) ?gpb_5 ?_
      case gpb_5=>(intro w' ⟨s0,s1,s2,s3⟩;go_simp;try with_reducible rfl)
      try simp only[Act.put,rd]
      refine tk 6 (v:=?fpb_6) ?gpb_6 ?_
      case gpb_6=>(intro w' ⟨s0,s1,s2,s3⟩;go_simp;try with_reducible rfl)
      try simp only[Act.put,rd]
      refine tk 8 (v:=?fpb_8) ?gpb_8 ?_
      case gpb_8=>(intro w' ⟨s0,s1,s2,s3⟩;go_simp;try with_reducible rfl)
      try simp only[Act.put,rd]
      refine tk 9 (v:=?fpb_9) ?gpb_9 ?_
      case gpb_9=>(intro w' ⟨s0,s1,s2,s3⟩;go_simp;try with_reducible rfl)
      try simp only[Act.put,rd]
      refine nx 7 fun K hK=>?_
      go_simp
      refine (root_any R3 w9 HG10.out.inv o M rt ln HQ9.out).mono ?_
      rintro z w10 ⟨rfl,rfl⟩
      go_simp
      refine hK.out _ _ (HSa.out _ _ HG10.out) (fun hHeld6=>?_)
      clear hHeld5
      refine tk 10 (v:=(.bool true)) ?gpb_10 ?_
      case gpb_10=>(intro w' ⟨s0,s1,s2,s3⟩;go_simp;try with_reducible rfl)
      try simp only[Act.put,rd]
      refine tk 11 (v:=(.bool true)) ?gpb_11 ?_
      case gpb_11=>(intro w' ⟨s0,s1,s2,s3⟩;go_simp;try with_reducible rfl)
      try simp only[Act.put,rd]
      refine tk 12 (v:=(.bool true)) ?gpb_12 ?_
      case gpb_12=>(intro w' ⟨s0,s1,s2,s3⟩;go_simp;try with_reducible rfl)
      try simp only[Act.put,rd]
      refine tk 13 (v:=?fpb_13) ?gpb_13 ?_
      case gpb_13=>(intro w' ⟨s0,s1,s2,s3⟩;go_simp;try with_reducible rfl)
      try simp only[Act.put,rd]
      refine tk 15 (v:=?fpb_15) ?gpb_15 ?_
      case gpb_15=>(intro w' ⟨s0,s1,s2,s3⟩;go_simp;try with_reducible rfl)
      try simp only[Act.put,rd]
      refine tk 16 (v:=?fpb_16) ?gpb_16 ?_
      case gpb_16=>(intro w' ⟨s0,s1,s2,s3⟩;go_simp;try with_reducible rfl)
      try simp only[Act.put,rd]
      refine nx 14 fun K hK=>?_
      go_simp
      refine (lone_any R3 w9 HG10.out.inv o M rt ln HQ9.out).mono ?_
      rintro z w10 ⟨rfl,rfl⟩
      go_simp
      refine hK.out _ _ (HSa.out _ _ HG10.out) (fun hHeld7=>?_)
      clear hHeld6
      refine tk 17 (v:=(.bool true)) ?gpb_17 ?_
      case gpb_17=>(intro w' ⟨s0,s1,s2,s3⟩;go_simp;try with_reducible rfl)
      try simp only[Act.put,rd]
      refine tk 18 (v:=(.bool true)) ?gpb_18 ?_
      case gpb_18=>(intro w' ⟨s0,s1,s2,s3⟩;go_simp;try with_reducible rfl)
      try simp only[Act.put,rd]
      refine tk 19 (v:=(.bool true)) ?gpb_19 ?_
      case gpb_19=>(intro w' ⟨s0,s1,s2,s3⟩;go_simp;try with_reducible rfl)
      try simp only[Act.put,rd]
      refine wpAnyH_done (by kernel_rfl) ?_ _
      clear hHeld7
      as_aux_lemma=>
       go_wp2_with fail
       go_ret
       exact⟨by first|rfl|simp,R3,HEa.out.trans (HEx.out.trans HG10.out)⟩
    ·have hc1:(C != 0)=true:=bne_iff_ne.2 hC
     have hc2:(C == 0)=false:=beq_eq_false_iff_ne.2 hC
     have ho:=HOn.out hC
     subst ho
     clear hC
     as_aux_lemma=>
      go_wp2_with fail
      go_ret
      exact⟨by first|rfl|simp,R3,HEa.out.trans (HEx.out.trans HG7.out)⟩
end Go.Proofs.Ytklkgicjfnbndaa
