/- parquetryref23.Do: a flip. Conditions: the dart is there; at most 100000 darts. -/
import Derived.Test.YtklkgicjfnbndaaZGrowPlays38
import Derived.Test.YtklkgicjfnbndaaZGrowPlays35
import Derived.Test.YtklkgicjfnbndaaZGrowPlays36
namespace Go.Proofs.Ytklkgicjfnbndaa
open Go.RowKit
set_option linter.unusedVariables false
set_option linter.unusedSimpArgs false
set_option maxRecDepth 100000 in
set_option maxHeartbeats 40000000 in
theorem do_flip (R:Reg) (w:World) (hI:Inv R w) (v:Value) (s:List Nat) (root lone:Int) (hv:FreeI R w v (toI s)) (hS:IsPerm s) (hn:s.length≤99000) (hev:s.length % 2=0) (d:Nat) (hd:d<s.length) (e:Int):
  Calls Try.prog 8 #[refV v root lone,.int .i64 4,.int .i64 (d:Int),.int .i64 e] w (fun z w2=>((orbitL (phiL s) d).length=3∧(orbitL (phiL s) (d ^^^ 1)).length=3∧nth (namesL (phiL s)) d≠nth (namesL (phiL s)) (d ^^^ 1)∧at' s d≠d∧at' s (d ^^^ 1)≠d ^^^ 1∧RetDo R w (flipL s d) root lone z w2)∨(¬ ((orbitL (phiL s) d).length=3∧(orbitL (phiL s) (d ^^^ 1)).length=3∧nth (namesL (phiL s)) d≠nth (namesL (phiL s)) (d ^^^ 1)∧at' s d≠d∧at' s (d ^^^ 1)≠d ^^^ 1)∧z=.returned (.tuple #[refV v root lone,.int .i64 8])∧Ev R w R w2)):=by
 obtain⟨a0,c0,rfl,_⟩:=hv.open
 rw[toI_length] at hv ⊢
 unfold refV
 have hp:=phiL_perm hS hev
 have hpl:=phiL_length s
 have hdm:=xor_one_lt hev hd
 have hmm:d ^^^ 1<s.length:=hdm
 obtain⟨bS,oS,rfl,_⟩:=hv.at hd
 have HRd:=Lib.hid (fun w' (h:Ev R w R w') i (hi:i<s.length)=>(by
  obtain⟨b,o,e1,h1⟩:=(hv.ev h).at hi
  cases e1
  exact h1:w'.cell? ⟨bS,oS+i,none⟩=some (.int .i64 ((at' s i:Nat):Int))))
 have hq1:at' (phiL s) d<s.length:=by rw[←hpl];exact hp.lt (by rw[hpl];exact hd)
 have hq3:at' (phiL s) (d ^^^ 1)<s.length:=by rw[←hpl];exact hp.lt (by rw[hpl];exact hdm)
 have hq2:at' (phiL s) (at' (phiL s) d)<s.length:=by rw[←hpl];exact hp.lt (by rw[hpl];exact hq1)
 have hq4:at' (phiL s) (at' (phiL s) (d ^^^ 1))<s.length:=by rw[←hpl];exact hp.lt (by rw[hpl];exact hq3)
 have HOd:=Lib.hid (fun w' v' (hI':Inv R w') (h:FreeI R w' v' (toI (phiL s)))=>rorbit_any R w' hI' v' (phiL s) h hp (by omega) d (by rw[hpl];exact hd))
 have HOm:=Lib.hid (fun w' v' (hI':Inv R w') (h:FreeI R w' v' (toI (phiL s)))=>rorbit_any R w' hI' v' (phiL s) h hp (by omega) (d ^^^ 1) (by rw[hpl];exact hdm))
 have HPh:=Lib.hid (fun w' (he:Ev R w R w')=>rphi_any R w' he.inv _ s root lone (hv.ev he) (by omega) hev)
 have HNm:=Lib.hid (fun w' v' (hI':Inv R w') (h:FreeI R w' v' (toI (phiL s)))=>rnames_any R w' hI' v' (phiL s) h hp (by omega))
 have HIv:=Lib.hid (fun w' (he:Ev R w R w')=>rinverse_any R w' he.inv _ s (hv.ev he) hS (by omega))
 have HMt:=Lib.hid (fun w'=>rmate_any w' d (by omega))
 have HLs:=Lib.hid (fun w' (he:Ev R w R w')=>r23lists_any R w' he.inv _ s root lone (hv.ev he) hS (by omega))
 have hsm:=lists_sm hS (by omega)
 have hll:=Nat.le_trans (listsL_len s s.length) (Nat.le_trans hn (by decide:99000≤99000))
 have hivl:=invL_length s
 have he0:Ev R w R (w.alloc (.cells #[.slice (some ⟨bS,oS,none⟩) s.length c0,.int .i64 root,.int .i64 lone] 27)):=(Ev.refl hI).alloc _
 have he01:Ev R (w.alloc (.cells #[.slice (some ⟨bS,oS,none⟩) s.length c0,.int .i64 root,.int .i64 lone] 27)) R ((w.alloc (.cells #[.slice (some ⟨bS,oS,none⟩) s.length c0,.int .i64 root,.int .i64 lone] 27)).alloc (.cells #[.slice none 0 0,.int .i64 0,.int .i64 0] 27)):=(Ev.refl he0.inv).alloc _
 have he1:Ev R w R ((w.alloc (.cells #[.slice (some ⟨bS,oS,none⟩) s.length c0,.int .i64 root,.int .i64 lone] 27)).alloc (.cells #[.slice none 0 0,.int .i64 0,.int .i64 0] 27)):=he0.trans he01
 have hn1:R w.heap.size=none:=hI.none_of_ge (Nat.le_refl _)
 have hB1:=fun w' (h:Ev R ((w.alloc (.cells #[.slice (some ⟨bS,oS,none⟩) s.length c0,.int .i64 root,.int .i64 lone] 27)).alloc (.cells #[.slice none 0 0,.int .i64 0,.int .i64 0] 27)) R w')=>(he01.trans h).boxC3 (heap_alloc_new w _) hn1
 have hB2:=fun w' (h:Ev R ((w.alloc (.cells #[.slice (some ⟨bS,oS,none⟩) s.length c0,.int .i64 root,.int .i64 lone] 27)).alloc (.cells #[.slice none 0 0,.int .i64 0,.int .i64 0] 27)) R w')=>h.boxC3 (heap_alloc_new (w.alloc (.cells #[.slice (some ⟨bS,oS,none⟩) s.length c0,.int .i64 root,.int .i64 lone] 27)) (.cells #[.slice none 0 0,.int .i64 0,.int .i64 0] 27)) (he0.inv.none_of_ge (Nat.le_refl _))
 have hza:((w.alloc (.cells #[.slice (some ⟨bS,oS,none⟩) s.length c0,.int .i64 root,.int .i64 lone] 27)).alloc (.cells #[.slice none 0 0,.int .i64 0,.int .i64 0] 27)).heap.size=w.heap.size+2:=by simp
 rw[World.size_alloc] at hB2
 obtain⟨n,hnn⟩:∃ n,s.length=n:=⟨_,rfl⟩
 obtain⟨m,hm⟩:∃ m,d ^^^ 1=m:=⟨_,rfl⟩
 obtain⟨xss,hxs⟩:∃ x,listsL s s.length=x:=⟨_,rfl⟩
 have HXs:=Lib.hid hxs
 rw[hnn] at hxs
 rw[hm] at HMt hmm
 rw[HXs.out] at hsm hll
 rw[hnn,hxs] at HLs
 rw[hnn] at HPh HIv he0 he01 he1 hB1 hB2 hza hpl hivl hn hd hev hmm ⊢
 obtain⟨pf,hpf⟩:∃ p,phiL s=p:=⟨_,rfl⟩
 have HPf:=Lib.hid hpf
 rw[hpf] at HPh HNm HOd HOm hpl hq1 hq2 hq3 hq4 ⊢
 rw[hm] at HOm hq3 hq4 ⊢
 obtain⟨f1,hf1⟩:∃ p,at' pf d=p:=⟨_,rfl⟩
 rw[hf1] at hq1 hq2
 obtain⟨f2,hf2⟩:∃ p,at' pf f1=p:=⟨_,rfl⟩
 rw[hf2] at hq2
 obtain⟨f3,hf3⟩:∃ p,at' pf m=p:=⟨_,rfl⟩
 rw[hf3] at hq3 hq4
 obtain⟨f4,hf4⟩:∃ p,at' pf f3=p:=⟨_,rfl⟩
 rw[hf4] at hq4
 rw[hnn] at HRd hq1 hq2 hq3 hq4
 obtain⟨NF,hNF⟩:∃ N,namesL pf=N:=⟨_,rfl⟩
 rw[hNF] at HNm ⊢
 have HNf:=Lib.hid hNF
 have hnfl:NF.length=n:=by rw[←hNF,namesL_length,hpl]
 obtain⟨qd,hqd⟩:∃ q,nth NF d=q:=⟨_,rfl⟩
 obtain⟨qm,hqm⟩:∃ q,nth NF m=q:=⟨_,rfl⟩
 obtain⟨sd,hsd⟩:∃ q,at' s d=q:=⟨_,rfl⟩
 obtain⟨sm,hsm'⟩:∃ q,at' s m=q:=⟨_,rfl⟩
 obtain⟨L1,hL1⟩:∃ q,(orbitL pf d).length=q:=⟨_,rfl⟩
 obtain⟨L2,hL2⟩:∃ q,(orbitL pf m).length=q:=⟨_,rfl⟩
 rw[hqd,hqm,hsd,hsm',hL1,hL2]
 have HF:=Lib.hid (show at' pf d=f1∧at' pf f1=f2∧at' pf m=f3∧at' pf f3=f4 from⟨hf1,hf2,hf3,hf4⟩)
 have HNl:=Lib.hid hnfl
 have HQs:=Lib.hid (show nth NF d=qd∧nth NF m=qm∧at' s d=sd∧at' s m=sm∧(orbitL pf d).length=L1∧(orbitL pf m).length=L2 from⟨hqd,hqm,hsd,hsm',hL1,hL2⟩)
 clear hpf hf1 hf2 hf3 hf4 hNF hnfl hqd hqm hsd hsm' hL1 hL2
 have HNn:=Lib.hid hnn
 have HMe:=Lib.hid hm
 have HS:=Lib.hid hS
 have HSm:=Lib.hid hsm
 have HLl:=Lib.hid hll
 have HHv:=Lib.hid hv
 clear hI hv hS hnn hm hsm hll hxs hp
 go_enter Try.func8,Try.ntmps8
 go_upto_region 1 with fail
 obtain⟨wa,hwa⟩:∃ wa,(w.alloc (.cells #[.slice (some ⟨bS,oS,none⟩) n c0,.int .i64 root,.int .i64 lone] 27)).alloc (.cells #[.slice none 0 0,.int .i64 0,.int .i64 0] 27)=wa:=⟨_,rfl⟩
 try rw[hwa] at he1 hB1 hB2 hza ⊢
 have HB1:=Lib.hid (fun w' (h:Ev R wa R w')=>boxC_cells (hB1 w' h).1)
 have HB2:=Lib.hid hB2
 have HZa:=Lib.hid hza
 have HEa:=Lib.hid he1
 obtain⟨x0,x1,x2,_⟩:=HB1.out _ (Ev.refl he1.inv)
 have hdr:decide ((d:Int)<0)=false:=by simp
 have hdr2:decide ((n:Int)≤(d:Int))=false:=by simp;omega
 clear he0 he01 he1 hB1 hB2 hza hwa hn1
 go_wp2_with fail
 refine (HPh.out _ HEa.out).mono ?_
 rintro z w2 ⟨v2,rfl,he2,ho2⟩
 obtain⟨a2,c2,rfl,_⟩:=ho2.ints.open
 rw[toI_length,hpl] at ho2 ⊢
 have HE2:=Lib.hid he2
 have HO2:=Lib.hid ho2
 clear he2 ho2 x0 x1 x2
 go_wp2_with fail
 refine (HNm.out _ _ HE2.out.inv HO2.out.free).mono ?_
 rintro z w3 ⟨v3,rfl,he3,ho3⟩
 obtain⟨a3,c3,rfl,_⟩:=ho3.ints.open
 rw[HNl.out] at ho3 ⊢
 have HE3:=Lib.hid (HE2.out.trans he3)
 have HO3:=Lib.hid ho3
 have HO2:=Lib.hid (HO2.out.ev he3)
 obtain⟨x0,x1,x2,_⟩:=HB1.out w3 HE3.out
 clear he3 ho3
 go_wp2_with fail
 refine (HIv.out _ (HEa.out.trans HE3.out)).mono ?_
 rintro z w4 ⟨v4,rfl,he4,ho4⟩
 obtain⟨a4,c4,rfl,_⟩:=ho4.ints.open
 rw[toI_length,hivl] at ho4 ⊢
 have HE4:=Lib.hid (HE3.out.trans he4)
 have HO4:=Lib.hid ho4
 have HO2:=Lib.hid (HO2.out.ev he4)
 have HO3:=Lib.hid (HO3.out.ev he4)
 clear he4 ho4 x0 x1 x2
 go_wp2_with fail
 refine (HMt.out _).mono ?_
 rintro z w4' ⟨rfl,rfl⟩
 obtain⟨x0,x1,x2,_⟩:=HB1.out w4 HE4.out
 go_wp2_with fail
 refine (HLs.out _ (HEa.out.trans HE4.out)).mono ?_
 rintro z w5 ⟨a5,c5,vs5,rfl,he5,hov5,hrw5⟩
 have hR5:RowsAt R w4.heap.size w5 (.slice a5 xss.length c5) xss:=⟨a5,c5,vs5,rfl,hov5,hrw5⟩
 have HE5:=Lib.hid (HE4.out.trans he5)
 have HR5:=Lib.hid hR5
 have HO2:=Lib.hid (HO2.out.ev he5)
 have HO3:=Lib.hid (HO3.out.ev he5)
 have HO4:=Lib.hid (HO4.out.ev he5)
 obtain⟨l5,hl5⟩:∃ l,xss.length=l:=⟨_,rfl⟩
 try rw[hl5]
 rw[hl5] at HR5
 have HL5:=Lib.hid hl5
 have HLb:=Lib.hid (show l5≤99000 by rw[←hl5];exact HLl.out)
 have HSz45:=Lib.hid he5.size
 clear he5 hov5 hrw5 hR5 hl5 x0 x1 x2
 go_wp2_with fail
 have HCl:=Lib.hid (fun w' (h:Ev R w5 R w')=>(by
  have hrd:=HRd.out _ (HEa.out.trans (HE5.out.trans h))
  have hcd:=hrd d hd
  have hcm:=hrd m (by omega)
  rw[HQs.out.2.2.1] at hcd
  rw[HQs.out.2.2.2.1] at hcm
  exact⟨hcd,hcm,HB1.out w' (HE5.out.trans h)⟩:_∧_∧_))
 obtain⟨g2,rfl,_,_,hg1,_⟩:=HO2.out.headAt (by rw[toI_length];exact hpl) hd
 obtain⟨g2',e2',_,_,hg2,_⟩:=HO2.out.headAt (by rw[toI_length];exact hpl) hq1
 cases e2'
 obtain⟨g2',e2',_,_,hg3,_⟩:=HO2.out.headAt (by rw[toI_length];exact hpl) hmm
 cases e2'
 obtain⟨g2',e2',_,_,hg4,_⟩:=HO2.out.headAt (by rw[toI_length];exact hpl) hq3
 cases e2'
 rw[toI_nth] at hg1 hg2 hg3 hg4
 rw[HF.out.1] at hg1
 rw[HF.out.2.1] at hg2
 rw[HF.out.2.2.1] at hg3
 rw[HF.out.2.2.2] at hg4
 go_region
 all_goals go_wp2_with fail
 have HE5d:=Lib.hid ((Ev.refl HE5.out.inv).drew.drew)
 clear hg1 hg2 hg3 hg4
 obtain⟨B,hB⟩:∃ B:Bool,B=!decide (L1=3∧L2=3∧qd≠qm∧sd≠d∧sm≠m):=⟨_,rfl⟩
 have HBq:=Lib.hid hB
 clear hB
 have HCf:=Lib.hid (fun w' (h:Ev R w5 R w')=>(by
  have h3:=HO3.out.ev h
  obtain⟨g3,e3,_,_,hc,_⟩:=h3.headAt HNl.out hd
  obtain⟨g3',e3',_,_,hc',_⟩:=h3.headAt HNl.out hmm
  rw[HQs.out.1] at hc
  rw[HQs.out.2.1] at hc'
  subst e3
  cases e3'
  exact⟨g3,rfl,hc,hc'⟩:∃ g3,a3=some ⟨g3,0,none⟩∧w'.cell? ⟨g3,d,none⟩=some (.int .i64 qd)∧w'.cell? ⟨g3,m,none⟩=some (.int .i64 qm)))
 obtain⟨g3,rfl,_⟩:=HCf.out _ (Ev.refl HE5.out.inv)
 have HCg:=Lib.hid (fun w' (h:Ev R w5 R w')=>(by
  obtain⟨g,e,h1,h2⟩:=HCf.out w' h
  cases e
  exact⟨h1,h2⟩:w'.cell? ⟨g3,d,none⟩=some (.int .i64 qd)∧w'.cell? ⟨g3,m,none⟩=some (.int .i64 qm)))
 have HCG:=Lib.hid (fun w' (h:Ev R w5 R w')=>(⟨HCl.out w' h,HCg.out w' h⟩:_∧_))
 have HOD:=Lib.hid (fun w' (h:Ev R w5 R w')=>HOd.out w' _ h.inv (HO2.out.ev h).free)
 have HOM:=Lib.hid (fun w' (h:Ev R w5 R w')=>HOm.out w' _ h.inv (HO2.out.ev h).free)
 obtain⟨⟨z1,z2,z3,_⟩,z4,z5⟩:=HCG.out _ HE5d.out
 go_cut [200] (fun c wx=>c=.bool B∧Ev R w5 R wx)
 case first=>
  clear HPh HNm HIv HMt HLs HXs HB1 HB2 HZa HRd HOd HOm HPf HF HO3 HO4 HO2 HR5 HL5 HLb HSm HLl HHv HS HNn HMe HCl HCf HCg HE5 HEa hivl hpl hev hn
  by_cases h1:L1=3
  ·have t1:((L1:Int) != 3)=false:=bne_eq_false_iff_eq.2 (by omega)
   by_cases h2:L2=3
   ·have t2:((L2:Int) != 3)=false:=bne_eq_false_iff_eq.2 (by omega)
    by_cases h3:¬ qd=qm
    ·have t3:(qd == qm)=false:=beq_eq_false_iff_ne.2 h3
     by_cases h4:¬ sd=d
     ·have t4:((sd:Int) == (d:Int))=false:=beq_eq_false_iff_ne.2 (by omega)
      by_cases h5:¬ sm=m
      ·have t5:((sm:Int) == (m:Int))=false:=beq_eq_false_iff_ne.2 (by omega)
       have hB:B=false:=by rw[HBq.out,decide_eq_true ⟨h1,h2,h3,h4,h5⟩];rfl
       have HB:=Lib.hid hB
       clear h1 h2 h3 h4 h5 hB
       have HEd:=HE5d
       as_aux_lemma=>
        refine wp_region_held_drew (S:=(fun w':World=>w'.cell? ⟨bS,oS+d,none⟩=some (.int .i64 (sd:Int))∧w'.cell? ⟨bS,oS+m,none⟩=some (.int .i64 (sm:Int))∧w'.cell? ⟨w.heap.size,0,none⟩=some (.slice (some ⟨bS,oS,none⟩) n c0)∧w'.cell? ⟨g3,d,none⟩=some (.int .i64 qd)∧w'.cell? ⟨g3,m,none⟩=some (.int .i64 qm))) (by kernel_rfl) ⟨z1,z2,z3,z4,z5⟩ (fun hHeld=>?_)
        refine tk 0 (v:=?f6_0) ?g6_0 ?_
        case g6_0=>(intro w' ⟨s0,s1,s2,s3,s4⟩;go_simp;try with_reducible rfl)
        try simp only[Act.put,rd]
        refine tk 1 (v:=?f6_1) ?g6_1 ?_
        case g6_1=>(intro w' ⟨s0,s1,s2,s3,s4⟩;go_simp;try with_reducible rfl)
        try simp only[Act.put,rd]
        refine nx 2 fun K hK=>?_
        go_simp
        refine (HOD.out _ HEd.out).mono ?_
        rintro z w6 ⟨v6,rfl,he6,ho6⟩
        obtain⟨a6,c6,rfl,_⟩:=ho6.ints.open
        rw[toI_length,HQs.out.2.2.2.2.1]
        have HEd:=Lib.hid (HEd.out.trans he6)
        clear he6 ho6
        obtain⟨⟨z1,z2,z3,_⟩,z4,z5⟩:=HCG.out _ HEd.out
        have hS6:(fun w':World=>w'.cell? ⟨bS,oS+d,none⟩=some (.int .i64 (sd:Int))∧w'.cell? ⟨bS,oS+m,none⟩=some (.int .i64 (sm:Int))∧w'.cell? ⟨w.heap.size,0,none⟩=some (.slice (some ⟨bS,oS,none⟩) n c0)∧w'.cell? ⟨g3,d,none⟩=some (.int .i64 qd)∧w'.cell? ⟨g3,m,none⟩=some (.int .i64 qm)) w6:=⟨z1,z2,z3,z4,z5⟩
        go_simp
        refine hK.out _ _ hS6 (fun hHeld6=>?_)
        clear hHeld
        refine tk 3 (v:=?f6_3) ?g6_3 ?_
        case g6_3=>(intro w' ⟨s0,s1,s2,s3,s4⟩;go_simp;try with_reducible rfl)
        try simp only[Act.put,rd]
        refine tk 4 (v:=(.bool false)) ?g6_4 ?_
        case g6_4=>(intro w' ⟨s0,s1,s2,s3,s4⟩;go_simp;try with_reducible rfl)
        try simp only[Act.put,rd]
        refine tk 5 (v:=(.bool false)) ?g6_5 ?_
        case g6_5=>(intro w' ⟨s0,s1,s2,s3,s4⟩;go_simp;try with_reducible rfl)
        try simp only[Act.put,rd]
        refine tk 6 (v:=?f6_6) ?g6_6 ?_
        case g6_6=>(intro w' ⟨s0,s1,s2,s3,s4⟩;go_simp;try with_reducible rfl)
        try simp only[Act.put,rd]
        refine tk 7 (v:=?f6_7) ?g6_7 ?_
        case g6_7=>(intro w' ⟨s0,s1,s2,s3,s4⟩;go_simp;try with_reducible rfl)
        try simp only[Act.put,rd]
        refine nx 8 fun K hK=>?_
        go_simp
        refine (HOM.out _ HEd.out).mono ?_
        rintro z w7 ⟨v6,rfl,he6,ho6⟩
        obtain⟨a7,c7,rfl,_⟩:=ho6.ints.open
        rw[toI_length,HQs.out.2.2.2.2.2]
        have HEd:=Lib.hid (HEd.out.trans he6)
        clear he6 ho6
        obtain⟨⟨z1,z2,z3,_⟩,z4,z5⟩:=HCG.out _ HEd.out
        have hS7:(fun w':World=>w'.cell? ⟨bS,oS+d,none⟩=some (.int .i64 (sd:Int))∧w'.cell? ⟨bS,oS+m,none⟩=some (.int .i64 (sm:Int))∧w'.cell? ⟨w.heap.size,0,none⟩=some (.slice (some ⟨bS,oS,none⟩) n c0)∧w'.cell? ⟨g3,d,none⟩=some (.int .i64 qd)∧w'.cell? ⟨g3,m,none⟩=some (.int .i64 qm)) w7:=⟨z1,z2,z3,z4,z5⟩
        go_simp
        refine hK.out _ _ hS7 (fun hHeld7=>?_)
        clear hHeld6
        refine tk 9 (v:=?f6_9) ?g6_9 ?_
        case g6_9=>(intro w' ⟨s0,s1,s2,s3,s4⟩;go_simp;try with_reducible rfl)
        try simp only[Act.put,rd]
        refine tk 10 (v:=(.bool false)) ?g6_10 ?_
        case g6_10=>(intro w' ⟨s0,s1,s2,s3,s4⟩;go_simp;try with_reducible rfl)
        try simp only[Act.put,rd]
        refine tk 11 (v:=(.bool false)) ?g6_11 ?_
        case g6_11=>(intro w' ⟨s0,s1,s2,s3,s4⟩;go_simp;try with_reducible rfl)
        try simp only[Act.put,rd]
        refine tk 12 (v:=(.bool false)) ?g6_12 ?_
        case g6_12=>(intro w' ⟨s0,s1,s2,s3,s4⟩;go_simp;try with_reducible rfl)
        try simp only[Act.put,rd]
        refine tk 13 (v:=?f6_13) ?g6_13 ?_
        case g6_13=>(intro w' ⟨s0,s1,s2,s3,s4⟩;go_simp;try with_reducible rfl)
        try simp only[Act.put,rd]
        refine tk 14 (v:=?f6_14) ?g6_14 ?_
        case g6_14=>(intro w' ⟨s0,s1,s2,s3,s4⟩;go_simp;try with_reducible rfl)
        try simp only[Act.put,rd]
        refine tk 15 (v:=?f6_15) ?g6_15 ?_
        case g6_15=>(intro w' ⟨s0,s1,s2,s3,s4⟩;go_simp;try with_reducible rfl)
        try simp only[Act.put,rd]
        refine tk 16 (v:=?f6_16) ?g6_16 ?_
        case g6_16=>(intro w' ⟨s0,s1,s2,s3,s4⟩;go_simp;try with_reducible rfl)
        try simp only[Act.put,rd]
        refine tk 17 (v:=?f6_17) ?g6_17 ?_
        case g6_17=>(intro w' ⟨s0,s1,s2,s3,s4⟩;go_simp;try with_reducible rfl)
        try simp only[Act.put,rd]
        refine tk 18 (v:=?f6_18) ?g6_18 ?_
        case g6_18=>(intro w' ⟨s0,s1,s2,s3,s4⟩;go_simp;try with_reducible rfl)
        try simp only[Act.put,rd]
        refine tk 19 (v:=?f6_19) ?g6_19 ?_
        case g6_19=>(intro w' ⟨s0,s1,s2,s3,s4⟩;go_simp;try with_reducible rfl)
        try simp only[Act.put,rd]
        refine tk 20 (v:=?f6_20) ?g6_20 ?_
        case g6_20=>(intro w' ⟨s0,s1,s2,s3,s4⟩;go_simp;try with_reducible rfl)
        try simp only[Act.put,rd]
        refine tk 21 (v:=(.bool false)) ?g6_21 ?_
        case g6_21=>(intro w' ⟨s0,s1,s2,s3,s4⟩;go_simp;try with_reducible rfl)
        try simp only[Act.put,rd]
        refine tk 22 (v:=(.bool false)) ?g6_22 ?_
        case g6_22=>(intro w' ⟨s0,s1,s2,s3,s4⟩;go_simp;try with_reducible rfl)
        try simp only[Act.put,rd]
        refine tk 23 (v:=(.bool false)) ?g6_23 ?_
        case g6_23=>(intro w' ⟨s0,s1,s2,s3,s4⟩;go_simp;try with_reducible rfl)
        try simp only[Act.put,rd]
        refine tk 24 (v:=?f6_24) ?g6_24 ?_
        case g6_24=>(intro w' ⟨s0,s1,s2,s3,s4⟩;go_simp;try with_reducible rfl)
        try simp only[Act.put,rd]
        refine tk 25 (v:=?f6_25) ?g6_25 ?_
        case g6_25=>(intro w' ⟨s0,s1,s2,s3,s4⟩;go_simp;try with_reducible rfl)
        try simp only[Act.put,rd]
        refine tk 26 (v:=?f6_26) ?g6_26 ?_
        case g6_26=>(intro w' ⟨s0,s1,s2,s3,s4⟩;go_simp;try with_reducible rfl)
        try simp only[Act.put,rd]
        refine tk 27 (v:=?f6_27) ?g6_27 ?_
        case g6_27=>(intro w' ⟨s0,s1,s2,s3,s4⟩;go_simp;try with_reducible rfl)
        try simp only[Act.put,rd]
        refine tk 28 (v:=?f6_28) ?g6_28 ?_
        case g6_28=>(intro w' ⟨s0,s1,s2,s3,s4⟩;go_simp;try with_reducible rfl)
        try simp only[Act.put,rd]
        refine tk 29 (v:=?f6_29) ?g6_29 ?_
        case g6_29=>(intro w' ⟨s0,s1,s2,s3,s4⟩;go_simp;try with_reducible rfl)
        try simp only[Act.put,rd]
        refine tk 30 (v:=(.bool false)) ?g6_30 ?_
        case g6_30=>(intro w' ⟨s0,s1,s2,s3,s4⟩;go_simp;try with_reducible rfl)
        try simp only[Act.put,rd]
        refine tk 31 (v:=(.bool false)) ?g6_31 ?_
        case g6_31=>(intro w' ⟨s0,s1,s2,s3,s4⟩;go_simp;try with_reducible rfl)
        try simp only[Act.put,rd]
        refine tk 32 (v:=(.bool false)) ?g6_32 ?_
        case g6_32=>(intro w' ⟨s0,s1,s2,s3,s4⟩;go_simp;try with_reducible rfl)
        try simp only[Act.put,rd]
        refine tk 33 (v:=?f6_33) ?g6_33 ?_
        case g6_33=>(intro w' ⟨s0,s1,s2,s3,s4⟩;go_simp;try with_reducible rfl)
        try simp only[Act.put,rd]
        refine tk 34 (v:=?f6_34) ?g6_34 ?_
        case g6_34=>(intro w' ⟨s0,s1,s2,s3,s4⟩;go_simp;try with_reducible rfl)
        try simp only[Act.put,rd]
        refine tk 35 (v:=?f6_35) ?g6_35 ?_
        case g6_35=>(intro w' ⟨s0,s1,s2,s3,s4⟩;go_simp;try with_reducible rfl)
        try simp only[Act.put,rd]
        refine tk 36 (v:=?f6_36) ?g6_36 ?_
        case g6_36=>(intro w' ⟨s0,s1,s2,s3,s4⟩;go_simp;try with_reducible rfl)
        try simp only[Act.put,rd]
        refine tk 37 (v:=?f6_37) ?g6_37 ?_
        case g6_37=>(intro w' ⟨s0,s1,s2,s3,s4⟩;go_simp;try with_reducible rfl)
        try simp only[Act.put,rd]
        refine tk 38 (v:=?f6_38) ?g6_38 ?_
        case g6_38=>(intro w' ⟨s0,s1,s2,s3,s4⟩;go_simp;try with_reducible rfl)
        try simp only[Act.put,rd]
        refine tk 39 (v:=(.bool false)) ?g6_39 ?_
        case g6_39=>(intro w' ⟨s0,s1,s2,s3,s4⟩;go_simp;try with_reducible rfl)
        try simp only[Act.put,rd]
        refine tk 40 (v:=(.bool false)) ?g6_40 ?_
        case g6_40=>(intro w' ⟨s0,s1,s2,s3,s4⟩;go_simp;try with_reducible rfl)
        try simp only[Act.put,rd]
        refine wpAnyH_done (by kernel_rfl) ?_ _
        go_wp2_with fail
        go_meet
        exact⟨by rw[HB.out],HEd.out⟩
      ·have t5:((sm:Int) == (m:Int))=true:=beq_iff_eq.2 (by omega)
       have hB:B=true:=by rw[HBq.out,decide_eq_false (fun h=>h5 (by first|exact h.2.2.2.2|exact h.2.2.2.2.1))];rfl
       have HB:=Lib.hid hB
       clear h1 h2 h3 h4 h5 hB
       have HEd:=HE5d
       as_aux_lemma=>
        refine wp_region_held_drew (S:=(fun w':World=>w'.cell? ⟨bS,oS+d,none⟩=some (.int .i64 (sd:Int))∧w'.cell? ⟨bS,oS+m,none⟩=some (.int .i64 (sm:Int))∧w'.cell? ⟨w.heap.size,0,none⟩=some (.slice (some ⟨bS,oS,none⟩) n c0)∧w'.cell? ⟨g3,d,none⟩=some (.int .i64 qd)∧w'.cell? ⟨g3,m,none⟩=some (.int .i64 qm))) (by kernel_rfl) ⟨z1,z2,z3,z4,z5⟩ (fun hHeld=>?_)
        refine tk 0 (v:=?f5_0) ?g5_0 ?_
        case g5_0=>(intro w' ⟨s0,s1,s2,s3,s4⟩;go_simp;try with_reducible rfl)
        try simp only[Act.put,rd]
        refine tk 1 (v:=?f5_1) ?g5_1 ?_
        case g5_1=>(intro w' ⟨s0,s1,s2,s3,s4⟩;go_simp;try with_reducible rfl)
        try simp only[Act.put,rd]
        refine nx 2 fun K hK=>?_
        go_simp
        refine (HOD.out _ HEd.out).mono ?_
        rintro z w6 ⟨v6,rfl,he6,ho6⟩
        obtain⟨a6,c6,rfl,_⟩:=ho6.ints.open
        rw[toI_length,HQs.out.2.2.2.2.1]
        have HEd:=Lib.hid (HEd.out.trans he6)
        clear he6 ho6
        obtain⟨⟨z1,z2,z3,_⟩,z4,z5⟩:=HCG.out _ HEd.out
        have hS6:(fun w':World=>w'.cell? ⟨bS,oS+d,none⟩=some (.int .i64 (sd:Int))∧w'.cell? ⟨bS,oS+m,none⟩=some (.int .i64 (sm:Int))∧w'.cell? ⟨w.heap.size,0,none⟩=some (.slice (some ⟨bS,oS,none⟩) n c0)∧w'.cell? ⟨g3,d,none⟩=some (.int .i64 qd)∧w'.cell? ⟨g3,m,none⟩=some (.int .i64 qm)) w6:=⟨z1,z2,z3,z4,z5⟩
        go_simp
        refine hK.out _ _ hS6 (fun hHeld6=>?_)
        clear hHeld
        refine tk 3 (v:=?f5_3) ?g5_3 ?_
        case g5_3=>(intro w' ⟨s0,s1,s2,s3,s4⟩;go_simp;try with_reducible rfl)
        try simp only[Act.put,rd]
        refine tk 4 (v:=(.bool false)) ?g5_4 ?_
        case g5_4=>(intro w' ⟨s0,s1,s2,s3,s4⟩;go_simp;try with_reducible rfl)
        try simp only[Act.put,rd]
        refine tk 5 (v:=(.bool false)) ?g5_5 ?_
        case g5_5=>(intro w' ⟨s0,s1,s2,s3,s4⟩;go_simp;try with_reducible rfl)
        try simp only[Act.put,rd]
        refine tk 6 (v:=?f5_6) ?g5_6 ?_
        case g5_6=>(intro w' ⟨s0,s1,s2,s3,s4⟩;go_simp;try with_reducible rfl)
        try simp only[Act.put,rd]
        refine tk 7 (v:=?f5_7) ?g5_7 ?_
        case g5_7=>(intro w' ⟨s0,s1,s2,s3,s4⟩;go_simp;try with_reducible rfl)
        try simp only[Act.put,rd]
        refine nx 8 fun K hK=>?_
        go_simp
        refine (HOM.out _ HEd.out).mono ?_
        rintro z w7 ⟨v6,rfl,he6,ho6⟩
        obtain⟨a7,c7,rfl,_⟩:=ho6.ints.open
        rw[toI_length,HQs.out.2.2.2.2.2]
        have HEd:=Lib.hid (HEd.out.trans he6)
        clear he6 ho6
        obtain⟨⟨z1,z2,z3,_⟩,z4,z5⟩:=HCG.out _ HEd.out
        have hS7:(fun w':World=>w'.cell? ⟨bS,oS+d,none⟩=some (.int .i64 (sd:Int))∧w'.cell? ⟨bS,oS+m,none⟩=some (.int .i64 (sm:Int))∧w'.cell? ⟨w.heap.size,0,none⟩=some (.slice (some ⟨bS,oS,none⟩) n c0)∧w'.cell? ⟨g3,d,none⟩=some (.int .i64 qd)∧w'.cell? ⟨g3,m,none⟩=some (.int .i64 qm)) w7:=⟨z1,z2,z3,z4,z5⟩
        go_simp
        refine hK.out _ _ hS7 (fun hHeld7=>?_)
        clear hHeld6
        refine tk 9 (v:=?f5_9) ?g5_9 ?_
        case g5_9=>(intro w' ⟨s0,s1,s2,s3,s4⟩;go_simp;try with_reducible rfl)
        try simp only[Act.put,rd]
        refine tk 10 (v:=(.bool false)) ?g5_10 ?_
        case g5_10=>(intro w' ⟨s0,s1,s2,s3,s4⟩;go_simp;try with_reducible rfl)
        try simp only[Act.put,rd]
        refine tk 11 (v:=(.bool false)) ?g5_11 ?_
        case g5_11=>(intro w' ⟨s0,s1,s2,s3,s4⟩;go_simp;try with_reducible rfl)
        try simp only[Act.put,rd]
        refine tk 12 (v:=(.bool false)) ?g5_12 ?_
        case g5_12=>(intro w' ⟨s0,s1,s2,s3,s4⟩;go_simp;try with_reducible rfl)
        try simp only[Act.put,rd]
        refine tk 13 (v:=?f5_13) ?g5_13 ?_
        case g5_13=>(intro w' ⟨s0,s1,s2,s3,s4⟩;go_simp;try with_reducible rfl)
        try simp only[Act.put,rd]
        refine tk 14 (v:=?f5_14) ?g5_14 ?_
        case g5_14=>(intro w' ⟨s0,s1,s2,s3,s4⟩;go_simp;try with_reducible rfl)
        try simp only[Act.put,rd]
        refine tk 15 (v:=?f5_15) ?g5_15 ?_
        case g5_15=>(intro w' ⟨s0,s1,s2,s3,s4⟩;go_simp;try with_reducible rfl)
        try simp only[Act.put,rd]
        refine tk 16 (v:=?f5_16) ?g5_16 ?_
        case g5_16=>(intro w' ⟨s0,s1,s2,s3,s4⟩;go_simp;try with_reducible rfl)
        try simp only[Act.put,rd]
        refine tk 17 (v:=?f5_17) ?g5_17 ?_
        case g5_17=>(intro w' ⟨s0,s1,s2,s3,s4⟩;go_simp;try with_reducible rfl)
        try simp only[Act.put,rd]
        refine tk 18 (v:=?f5_18) ?g5_18 ?_
        case g5_18=>(intro w' ⟨s0,s1,s2,s3,s4⟩;go_simp;try with_reducible rfl)
        try simp only[Act.put,rd]
        refine tk 19 (v:=?f5_19) ?g5_19 ?_
        case g5_19=>(intro w' ⟨s0,s1,s2,s3,s4⟩;go_simp;try with_reducible rfl)
        try simp only[Act.put,rd]
        refine tk 20 (v:=?f5_20) ?g5_20 ?_
        case g5_20=>(intro w' ⟨s0,s1,s2,s3,s4⟩;go_simp;try with_reducible rfl)
        try simp only[Act.put,rd]
        refine tk 21 (v:=(.bool false)) ?g5_21 ?_
        case g5_21=>(intro w' ⟨s0,s1,s2,s3,s4⟩;go_simp;try with_reducible rfl)
        try simp only[Act.put,rd]
        refine tk 22 (v:=(.bool false)) ?g5_22 ?_
        case g5_22=>(intro w' ⟨s0,s1,s2,s3,s4⟩;go_simp;try with_reducible rfl)
        try simp only[Act.put,rd]
        refine tk 23 (v:=(.bool false)) ?g5_23 ?_
        case g5_23=>(intro w' ⟨s0,s1,s2,s3,s4⟩;go_simp;try with_reducible rfl)
        try simp only[Act.put,rd]
        refine tk 24 (v:=?f5_24) ?g5_24 ?_
        case g5_24=>(intro w' ⟨s0,s1,s2,s3,s4⟩;go_simp;try with_reducible rfl)
        try simp only[Act.put,rd]
        refine tk 25 (v:=?f5_25) ?g5_25 ?_
        case g5_25=>(intro w' ⟨s0,s1,s2,s3,s4⟩;go_simp;try with_reducible rfl)
        try simp only[Act.put,rd]
        refine tk 26 (v:=?f5_26) ?g5_26 ?_
        case g5_26=>(intro w' ⟨s0,s1,s2,s3,s4⟩;go_simp;try with_reducible rfl)
        try simp only[Act.put,rd]
        refine tk 27 (v:=?f5_27) ?g5_27 ?_
        case g5_27=>(intro w' ⟨s0,s1,s2,s3,s4⟩;go_simp;try with_reducible rfl)
        try simp only[Act.put,rd]
        refine tk 28 (v:=?f5_28) ?g5_28 ?_
        case g5_28=>(intro w' ⟨s0,s1,s2,s3,s4⟩;go_simp;try with_reducible rfl)
        try simp only[Act.put,rd]
        refine tk 29 (v:=?f5_29) ?g5_29 ?_
        case g5_29=>(intro w' ⟨s0,s1,s2,s3,s4⟩;go_simp;try with_reducible rfl)
        try simp only[Act.put,rd]
        refine tk 30 (v:=(.bool false)) ?g5_30 ?_
        case g5_30=>(intro w' ⟨s0,s1,s2,s3,s4⟩;go_simp;try with_reducible rfl)
        try simp only[Act.put,rd]
        refine tk 31 (v:=(.bool false)) ?g5_31 ?_
        case g5_31=>(intro w' ⟨s0,s1,s2,s3,s4⟩;go_simp;try with_reducible rfl)
        try simp only[Act.put,rd]
        refine tk 32 (v:=(.bool false)) ?g5_32 ?_
        case g5_32=>(intro w' ⟨s0,s1,s2,s3,s4⟩;go_simp;try with_reducible rfl)
        try simp only[Act.put,rd]
        refine tk 33 (v:=?f5_33) ?g5_33 ?_
        case g5_33=>(intro w' ⟨s0,s1,s2,s3,s4⟩;go_simp;try with_reducible rfl)
        try simp only[Act.put,rd]
        refine tk 34 (v:=?f5_34) ?g5_34 ?_
        case g5_34=>(intro w' ⟨s0,s1,s2,s3,s4⟩;go_simp;try with_reducible rfl)
        try simp only[Act.put,rd]
        refine tk 35 (v:=?f5_35) ?g5_35 ?_
        case g5_35=>(intro w' ⟨s0,s1,s2,s3,s4⟩;go_simp;try with_reducible rfl)
        try simp only[Act.put,rd]
        refine tk 36 (v:=?f5_36) ?g5_36 ?_
        case g5_36=>(intro w' ⟨s0,s1,s2,s3,s4⟩;go_simp;try with_reducible rfl)
        try simp only[Act.put,rd]
        refine tk 37 (v:=?f5_37) ?g5_37 ?_
        case g5_37=>(intro w' ⟨s0,s1,s2,s3,s4⟩;go_simp;try with_reducible rfl)
        try simp only[Act.put,rd]
        refine tk 38 (v:=?f5_38) ?g5_38 ?_
        case g5_38=>(intro w' ⟨s0,s1,s2,s3,s4⟩;go_simp;try with_reducible rfl)
        try simp only[Act.put,rd]
        refine tk 39 (v:=(.bool true)) ?g5_39 ?_
        case g5_39=>(intro w' ⟨s0,s1,s2,s3,s4⟩;go_simp;try with_reducible rfl)
        try simp only[Act.put,rd]
        refine tk 40 (v:=(.bool true)) ?g5_40 ?_
        case g5_40=>(intro w' ⟨s0,s1,s2,s3,s4⟩;go_simp;try with_reducible rfl)
        try simp only[Act.put,rd]
        refine wpAnyH_done (by kernel_rfl) ?_ _
        go_wp2_with fail
        go_meet
        exact⟨by rw[HB.out],HEd.out⟩
     ·have t4:((sd:Int) == (d:Int))=true:=beq_iff_eq.2 (by omega)
      have hB:B=true:=by rw[HBq.out,decide_eq_false (fun h=>h4 (by first|exact h.2.2.2|exact h.2.2.2.1))];rfl
      have HB:=Lib.hid hB
      clear h1 h2 h3 h4 hB
      have HEd:=HE5d
      as_aux_lemma=>
       refine wp_region_held_drew (S:=(fun w':World=>w'.cell? ⟨bS,oS+d,none⟩=some (.int .i64 (sd:Int))∧w'.cell? ⟨bS,oS+m,none⟩=some (.int .i64 (sm:Int))∧w'.cell? ⟨w.heap.size,0,none⟩=some (.slice (some ⟨bS,oS,none⟩) n c0)∧w'.cell? ⟨g3,d,none⟩=some (.int .i64 qd)∧w'.cell? ⟨g3,m,none⟩=some (.int .i64 qm))) (by kernel_rfl) ⟨z1,z2,z3,z4,z5⟩ (fun hHeld=>?_)
       refine tk 0 (v:=?f4_0) ?g4_0 ?_
       case g4_0=>(intro w' ⟨s0,s1,s2,s3,s4⟩;go_simp;try with_reducible rfl)
       try simp only[Act.put,rd]
       refine tk 1 (v:=?f4_1) ?g4_1 ?_
       case g4_1=>(intro w' ⟨s0,s1,s2,s3,s4⟩;go_simp;try with_reducible rfl)
       try simp only[Act.put,rd]
       refine nx 2 fun K hK=>?_
       go_simp
       refine (HOD.out _ HEd.out).mono ?_
       rintro z w6 ⟨v6,rfl,he6,ho6⟩
       obtain⟨a6,c6,rfl,_⟩:=ho6.ints.open
       rw[toI_length,HQs.out.2.2.2.2.1]
       have HEd:=Lib.hid (HEd.out.trans he6)
       clear he6 ho6
       obtain⟨⟨z1,z2,z3,_⟩,z4,z5⟩:=HCG.out _ HEd.out
       have hS6:(fun w':World=>w'.cell? ⟨bS,oS+d,none⟩=some (.int .i64 (sd:Int))∧w'.cell? ⟨bS,oS+m,none⟩=some (.int .i64 (sm:Int))∧w'.cell? ⟨w.heap.size,0,none⟩=some (.slice (some ⟨bS,oS,none⟩) n c0)∧w'.cell? ⟨g3,d,none⟩=some (.int .i64 qd)∧w'.cell? ⟨g3,m,none⟩=some (.int .i64 qm)) w6:=⟨z1,z2,z3,z4,z5⟩
       go_simp
       refine hK.out _ _ hS6 (fun hHeld6=>?_)
       clear hHeld
       refine tk 3 (v:=?f4_3) ?g4_3 ?_
       case g4_3=>(intro w' ⟨s0,s1,s2,s3,s4⟩;go_simp;try with_reducible rfl)
       try simp only[Act.put,rd]
       refine tk 4 (v:=(.bool false)) ?g4_4 ?_
       case g4_4=>(intro w' ⟨s0,s1,s2,s3,s4⟩;go_simp;try with_reducible rfl)
       try simp only[Act.put,rd]
       refine tk 5 (v:=(.bool false)) ?g4_5 ?_
       case g4_5=>(intro w' ⟨s0,s1,s2,s3,s4⟩;go_simp;try with_reducible rfl)
       try simp only[Act.put,rd]
       refine tk 6 (v:=?f4_6) ?g4_6 ?_
       case g4_6=>(intro w' ⟨s0,s1,s2,s3,s4⟩;go_simp;try with_reducible rfl)
       try simp only[Act.put,rd]
       refine tk 7 (v:=?f4_7) ?g4_7 ?_
       case g4_7=>(intro w' ⟨s0,s1,s2,s3,s4⟩;go_simp;try with_reducible rfl)
       try simp only[Act.put,rd]
       refine nx 8 fun K hK=>?_
       go_simp
       refine (HOM.out _ HEd.out).mono ?_
       rintro z w7 ⟨v6,rfl,he6,ho6⟩
       obtain⟨a7,c7,rfl,_⟩:=ho6.ints.open
       rw[toI_length,HQs.out.2.2.2.2.2]
       have HEd:=Lib.hid (HEd.out.trans he6)
       clear he6 ho6
       obtain⟨⟨z1,z2,z3,_⟩,z4,z5⟩:=HCG.out _ HEd.out
       have hS7:(fun w':World=>w'.cell? ⟨bS,oS+d,none⟩=some (.int .i64 (sd:Int))∧w'.cell? ⟨bS,oS+m,none⟩=some (.int .i64 (sm:Int))∧w'.cell? ⟨w.heap.size,0,none⟩=some (.slice (some ⟨bS,oS,none⟩) n c0)∧w'.cell? ⟨g3,d,none⟩=some (.int .i64 qd)∧w'.cell? ⟨g3,m,none⟩=some (.int .i64 qm)) w7:=⟨z1,z2,z3,z4,z5⟩
       go_simp
       refine hK.out _ _ hS7 (fun hHeld7=>?_)
       clear hHeld6
       refine tk 9 (v:=?f4_9) ?g4_9 ?_
       case g4_9=>(intro w' ⟨s0,s1,s2,s3,s4⟩;go_simp;try with_reducible rfl)
       try simp only[Act.put,rd]
       refine tk 10 (v:=(.bool false)) ?g4_10 ?_
       case g4_10=>(intro w' ⟨s0,s1,s2,s3,s4⟩;go_simp;try with_reducible rfl)
       try simp only[Act.put,rd]
       refine tk 11 (v:=(.bool false)) ?g4_11 ?_
       case g4_11=>(intro w' ⟨s0,s1,s2,s3,s4⟩;go_simp;try with_reducible rfl)
       try simp only[Act.put,rd]
       refine tk 12 (v:=(.bool false)) ?g4_12 ?_
       case g4_12=>(intro w' ⟨s0,s1,s2,s3,s4⟩;go_simp;try with_reducible rfl)
       try simp only[Act.put,rd]
       refine tk 13 (v:=?f4_13) ?g4_13 ?_
       case g4_13=>(intro w' ⟨s0,s1,s2,s3,s4⟩;go_simp;try with_reducible rfl)
       try simp only[Act.put,rd]
       refine tk 14 (v:=?f4_14) ?g4_14 ?_
       case g4_14=>(intro w' ⟨s0,s1,s2,s3,s4⟩;go_simp;try with_reducible rfl)
       try simp only[Act.put,rd]
       refine tk 15 (v:=?f4_15) ?g4_15 ?_
       case g4_15=>(intro w' ⟨s0,s1,s2,s3,s4⟩;go_simp;try with_reducible rfl)
       try simp only[Act.put,rd]
       refine tk 16 (v:=?f4_16) ?g4_16 ?_
       case g4_16=>(intro w' ⟨s0,s1,s2,s3,s4⟩;go_simp;try with_reducible rfl)
       try simp only[Act.put,rd]
       refine tk 17 (v:=?f4_17) ?g4_17 ?_
       case g4_17=>(intro w' ⟨s0,s1,s2,s3,s4⟩;go_simp;try with_reducible rfl)
       try simp only[Act.put,rd]
       refine tk 18 (v:=?f4_18) ?g4_18 ?_
       case g4_18=>(intro w' ⟨s0,s1,s2,s3,s4⟩;go_simp;try with_reducible rfl)
       try simp only[Act.put,rd]
       refine tk 19 (v:=?f4_19) ?g4_19 ?_
       case g4_19=>(intro w' ⟨s0,s1,s2,s3,s4⟩;go_simp;try with_reducible rfl)
       try simp only[Act.put,rd]
       refine tk 20 (v:=?f4_20) ?g4_20 ?_
       case g4_20=>(intro w' ⟨s0,s1,s2,s3,s4⟩;go_simp;try with_reducible rfl)
       try simp only[Act.put,rd]
       refine tk 21 (v:=(.bool false)) ?g4_21 ?_
       case g4_21=>(intro w' ⟨s0,s1,s2,s3,s4⟩;go_simp;try with_reducible rfl)
       try simp only[Act.put,rd]
       refine tk 22 (v:=(.bool false)) ?g4_22 ?_
       case g4_22=>(intro w' ⟨s0,s1,s2,s3,s4⟩;go_simp;try with_reducible rfl)
       try simp only[Act.put,rd]
       refine tk 23 (v:=(.bool false)) ?g4_23 ?_
       case g4_23=>(intro w' ⟨s0,s1,s2,s3,s4⟩;go_simp;try with_reducible rfl)
       try simp only[Act.put,rd]
       refine tk 24 (v:=?f4_24) ?g4_24 ?_
       case g4_24=>(intro w' ⟨s0,s1,s2,s3,s4⟩;go_simp;try with_reducible rfl)
       try simp only[Act.put,rd]
       refine tk 25 (v:=?f4_25) ?g4_25 ?_
       case g4_25=>(intro w' ⟨s0,s1,s2,s3,s4⟩;go_simp;try with_reducible rfl)
       try simp only[Act.put,rd]
       refine tk 26 (v:=?f4_26) ?g4_26 ?_
       case g4_26=>(intro w' ⟨s0,s1,s2,s3,s4⟩;go_simp;try with_reducible rfl)
       try simp only[Act.put,rd]
       refine tk 27 (v:=?f4_27) ?g4_27 ?_
       case g4_27=>(intro w' ⟨s0,s1,s2,s3,s4⟩;go_simp;try with_reducible rfl)
       try simp only[Act.put,rd]
       refine tk 28 (v:=?f4_28) ?g4_28 ?_
       case g4_28=>(intro w' ⟨s0,s1,s2,s3,s4⟩;go_simp;try with_reducible rfl)
       try simp only[Act.put,rd]
       refine tk 29 (v:=?f4_29) ?g4_29 ?_
       case g4_29=>(intro w' ⟨s0,s1,s2,s3,s4⟩;go_simp;try with_reducible rfl)
       try simp only[Act.put,rd]
       refine tk 30 (v:=(.bool true)) ?g4_30 ?_
       case g4_30=>(intro w' ⟨s0,s1,s2,s3,s4⟩;go_simp;try with_reducible rfl)
       try simp only[Act.put,rd]
       refine tk 31 (v:=(.bool true)) ?g4_31 ?_
       case g4_31=>(intro w' ⟨s0,s1,s2,s3,s4⟩;go_simp;try with_reducible rfl)
       try simp only[Act.put,rd]
       refine tk 32 (v:=(.bool true)) ?g4_32 ?_
       case g4_32=>(intro w' ⟨s0,s1,s2,s3,s4⟩;go_simp;try with_reducible rfl)
       try simp only[Act.put,rd]
       refine sk 33 ?_
       try simp only[Act.put,rd]
       refine sk 34 ?_
       try simp only[Act.put,rd]
       refine sk 35 ?_
       try simp only[Act.put,rd]
       refine sk 36 ?_
       try simp only[Act.put,rd]
       refine sk 37 ?_
       try simp only[Act.put,rd]
       refine sk 38 ?_
       try simp only[Act.put,rd]
       refine sk 39 ?_
       try simp only[Act.put,rd]
       refine tk 40 (v:=(.bool true)) ?g4_40 ?_
       case g4_40=>(intro w' ⟨s0,s1,s2,s3,s4⟩;go_simp;try with_reducible rfl)
       try simp only[Act.put,rd]
       refine wpAnyH_done (by kernel_rfl) ?_ _
       go_wp2_with fail
       go_meet
       exact⟨by rw[HB.out],HEd.out⟩
    ·have t3:(qd == qm)=true:=beq_iff_eq.2 (by simpa using h3)
     have hB:B=true:=by rw[HBq.out,decide_eq_false (fun h=>h3 (by first|exact h.2.2|exact h.2.2.1))];rfl
     have HB:=Lib.hid hB
     clear h1 h2 h3 hB
     have HEd:=HE5d
     as_aux_lemma=>
      refine wp_region_held_drew (S:=(fun w':World=>w'.cell? ⟨bS,oS+d,none⟩=some (.int .i64 (sd:Int))∧w'.cell? ⟨bS,oS+m,none⟩=some (.int .i64 (sm:Int))∧w'.cell? ⟨w.heap.size,0,none⟩=some (.slice (some ⟨bS,oS,none⟩) n c0)∧w'.cell? ⟨g3,d,none⟩=some (.int .i64 qd)∧w'.cell? ⟨g3,m,none⟩=some (.int .i64 qm))) (by kernel_rfl) ⟨z1,z2,z3,z4,z5⟩ (fun hHeld=>?_)
      refine tk 0 (v:=?f3_0) ?g3_0 ?_
      case g3_0=>(intro w' ⟨s0,s1,s2,s3,s4⟩;go_simp;try with_reducible rfl)
      try simp only[Act.put,rd]
      refine tk 1 (v:=?f3_1) ?g3_1 ?_
      case g3_1=>(intro w' ⟨s0,s1,s2,s3,s4⟩;go_simp;try with_reducible rfl)
      try simp only[Act.put,rd]
      refine nx 2 fun K hK=>?_
      go_simp
      refine (HOD.out _ HEd.out).mono ?_
      rintro z w6 ⟨v6,rfl,he6,ho6⟩
      obtain⟨a6,c6,rfl,_⟩:=ho6.ints.open
      rw[toI_length,HQs.out.2.2.2.2.1]
      have HEd:=Lib.hid (HEd.out.trans he6)
      clear he6 ho6
      obtain⟨⟨z1,z2,z3,_⟩,z4,z5⟩:=HCG.out _ HEd.out
      have hS6:(fun w':World=>w'.cell? ⟨bS,oS+d,none⟩=some (.int .i64 (sd:Int))∧w'.cell? ⟨bS,oS+m,none⟩=some (.int .i64 (sm:Int))∧w'.cell? ⟨w.heap.size,0,none⟩=some (.slice (some ⟨bS,oS,none⟩) n c0)∧w'.cell? ⟨g3,d,none⟩=some (.int .i64 qd)∧w'.cell? ⟨g3,m,none⟩=some (.int .i64 qm)) w6:=⟨z1,z2,z3,z4,z5⟩
      go_simp
      refine hK.out _ _ hS6 (fun hHeld6=>?_)
      clear hHeld
      refine tk 3 (v:=?f3_3) ?g3_3 ?_
      case g3_3=>(intro w' ⟨s0,s1,s2,s3,s4⟩;go_simp;try with_reducible rfl)
      try simp only[Act.put,rd]
      refine tk 4 (v:=(.bool false)) ?g3_4 ?_
      case g3_4=>(intro w' ⟨s0,s1,s2,s3,s4⟩;go_simp;try with_reducible rfl)
      try simp only[Act.put,rd]
      refine tk 5 (v:=(.bool false)) ?g3_5 ?_
      case g3_5=>(intro w' ⟨s0,s1,s2,s3,s4⟩;go_simp;try with_reducible rfl)
      try simp only[Act.put,rd]
      refine tk 6 (v:=?f3_6) ?g3_6 ?_
      case g3_6=>(intro w' ⟨s0,s1,s2,s3,s4⟩;go_simp;try with_reducible rfl)
      try simp only[Act.put,rd]
      refine tk 7 (v:=?f3_7) ?g3_7 ?_
      case g3_7=>(intro w' ⟨s0,s1,s2,s3,s4⟩;go_simp;try with_reducible rfl)
      try simp only[Act.put,rd]
      refine nx 8 fun K hK=>?_
      go_simp
      refine (HOM.out _ HEd.out).mono ?_
      rintro z w7 ⟨v6,rfl,he6,ho6⟩
      obtain⟨a7,c7,rfl,_⟩:=ho6.ints.open
      rw[toI_length,HQs.out.2.2.2.2.2]
      have HEd:=Lib.hid (HEd.out.trans he6)
      clear he6 ho6
      obtain⟨⟨z1,z2,z3,_⟩,z4,z5⟩:=HCG.out _ HEd.out
      have hS7:(fun w':World=>w'.cell? ⟨bS,oS+d,none⟩=some (.int .i64 (sd:Int))∧w'.cell? ⟨bS,oS+m,none⟩=some (.int .i64 (sm:Int))∧w'.cell? ⟨w.heap.size,0,none⟩=some (.slice (some ⟨bS,oS,none⟩) n c0)∧w'.cell? ⟨g3,d,none⟩=some (.int .i64 qd)∧w'.cell? ⟨g3,m,none⟩=some (.int .i64 qm)) w7:=⟨z1,z2,z3,z4,z5⟩
      go_simp
      refine hK.out _ _ hS7 (fun hHeld7=>?_)
      clear hHeld6
      refine tk 9 (v:=?f3_9) ?g3_9 ?_
      case g3_9=>(intro w' ⟨s0,s1,s2,s3,s4⟩;go_simp;try with_reducible rfl)
      try simp only[Act.put,rd]
      refine tk 10 (v:=(.bool false)) ?g3_10 ?_
      case g3_10=>(intro w' ⟨s0,s1,s2,s3,s4⟩;go_simp;try with_reducible rfl)
      try simp only[Act.put,rd]
      refine tk 11 (v:=(.bool false)) ?g3_11 ?_
      case g3_11=>(intro w' ⟨s0,s1,s2,s3,s4⟩;go_simp;try with_reducible rfl)
      try simp only[Act.put,rd]
      refine tk 12 (v:=(.bool false)) ?g3_12 ?_
      case g3_12=>(intro w' ⟨s0,s1,s2,s3,s4⟩;go_simp;try with_reducible rfl)
      try simp only[Act.put,rd]
      refine tk 13 (v:=?f3_13) ?g3_13 ?_
      case g3_13=>(intro w' ⟨s0,s1,s2,s3,s4⟩;go_simp;try with_reducible rfl)
      try simp only[Act.put,rd]
      refine tk 14 (v:=?f3_14) ?g3_14 ?_
      case g3_14=>(intro w' ⟨s0,s1,s2,s3,s4⟩;go_simp;try with_reducible rfl)
      try simp only[Act.put,rd]
      refine tk 15 (v:=?f3_15) ?g3_15 ?_
      case g3_15=>(intro w' ⟨s0,s1,s2,s3,s4⟩;go_simp;try with_reducible rfl)
      try simp only[Act.put,rd]
      refine tk 16 (v:=?f3_16) ?g3_16 ?_
      case g3_16=>(intro w' ⟨s0,s1,s2,s3,s4⟩;go_simp;try with_reducible rfl)
      try simp only[Act.put,rd]
      refine tk 17 (v:=?f3_17) ?g3_17 ?_
      case g3_17=>(intro w' ⟨s0,s1,s2,s3,s4⟩;go_simp;try with_reducible rfl)
      try simp only[Act.put,rd]
      refine tk 18 (v:=?f3_18) ?g3_18 ?_
      case g3_18=>(intro w' ⟨s0,s1,s2,s3,s4⟩;go_simp;try with_reducible rfl)
      try simp only[Act.put,rd]
      refine tk 19 (v:=?f3_19) ?g3_19 ?_
      case g3_19=>(intro w' ⟨s0,s1,s2,s3,s4⟩;go_simp;try with_reducible rfl)
      try simp only[Act.put,rd]
      refine tk 20 (v:=?f3_20) ?g3_20 ?_
      case g3_20=>(intro w' ⟨s0,s1,s2,s3,s4⟩;go_simp;try with_reducible rfl)
      try simp only[Act.put,rd]
      refine tk 21 (v:=(.bool true)) ?g3_21 ?_
      case g3_21=>(intro w' ⟨s0,s1,s2,s3,s4⟩;go_simp;try with_reducible rfl)
      try simp only[Act.put,rd]
      refine tk 22 (v:=(.bool true)) ?g3_22 ?_
      case g3_22=>(intro w' ⟨s0,s1,s2,s3,s4⟩;go_simp;try with_reducible rfl)
      try simp only[Act.put,rd]
      refine tk 23 (v:=(.bool true)) ?g3_23 ?_
      case g3_23=>(intro w' ⟨s0,s1,s2,s3,s4⟩;go_simp;try with_reducible rfl)
      try simp only[Act.put,rd]
      refine sk 24 ?_
      try simp only[Act.put,rd]
      refine sk 25 ?_
      try simp only[Act.put,rd]
      refine sk 26 ?_
      try simp only[Act.put,rd]
      refine sk 27 ?_
      try simp only[Act.put,rd]
      refine sk 28 ?_
      try simp only[Act.put,rd]
      refine sk 29 ?_
      try simp only[Act.put,rd]
      refine sk 30 ?_
      try simp only[Act.put,rd]
      refine tk 31 (v:=(.bool true)) ?g3_31 ?_
      case g3_31=>(intro w' ⟨s0,s1,s2,s3,s4⟩;go_simp;try with_reducible rfl)
      try simp only[Act.put,rd]
      refine tk 32 (v:=(.bool true)) ?g3_32 ?_
      case g3_32=>(intro w' ⟨s0,s1,s2,s3,s4⟩;go_simp;try with_reducible rfl)
      try simp only[Act.put,rd]
      refine sk 33 ?_
      try simp only[Act.put,rd]
      refine sk 34 ?_
      try simp only[Act.put,rd]
      refine sk 35 ?_
      try simp only[Act.put,rd]
      refine sk 36 ?_
      try simp only[Act.put,rd]
      refine sk 37 ?_
      try simp only[Act.put,rd]
      refine sk 38 ?_
      try simp only[Act.put,rd]
      refine sk 39 ?_
      try simp only[Act.put,rd]
      refine tk 40 (v:=(.bool true)) ?g3_40 ?_
      case g3_40=>(intro w' ⟨s0,s1,s2,s3,s4⟩;go_simp;try with_reducible rfl)
      try simp only[Act.put,rd]
      refine wpAnyH_done (by kernel_rfl) ?_ _
      go_wp2_with fail
      go_meet
      exact⟨by rw[HB.out],HEd.out⟩
   ·have t2:((L2:Int) != 3)=true:=bne_iff_ne.2 (by omega)
    have hB:B=true:=by rw[HBq.out,decide_eq_false (fun h=>h2 (by first|exact h.2|exact h.2.1))];rfl
    have HB:=Lib.hid hB
    clear h1 h2 hB
    have HEd:=HE5d
    as_aux_lemma=>
     refine wp_region_held_drew (S:=(fun w':World=>w'.cell? ⟨bS,oS+d,none⟩=some (.int .i64 (sd:Int))∧w'.cell? ⟨bS,oS+m,none⟩=some (.int .i64 (sm:Int))∧w'.cell? ⟨w.heap.size,0,none⟩=some (.slice (some ⟨bS,oS,none⟩) n c0)∧w'.cell? ⟨g3,d,none⟩=some (.int .i64 qd)∧w'.cell? ⟨g3,m,none⟩=some (.int .i64 qm))) (by kernel_rfl) ⟨z1,z2,z3,z4,z5⟩ (fun hHeld=>?_)
     refine tk 0 (v:=?f2_0) ?g2_0 ?_
     case g2_0=>(intro w' ⟨s0,s1,s2,s3,s4⟩;go_simp;try with_reducible rfl)
     try simp only[Act.put,rd]
     refine tk 1 (v:=?f2_1) ?g2_1 ?_
     case g2_1=>(intro w' ⟨s0,s1,s2,s3,s4⟩;go_simp;try with_reducible rfl)
     try simp only[Act.put,rd]
     refine nx 2 fun K hK=>?_
     go_simp
     refine (HOD.out _ HEd.out).mono ?_
     rintro z w6 ⟨v6,rfl,he6,ho6⟩
     obtain⟨a6,c6,rfl,_⟩:=ho6.ints.open
     rw[toI_length,HQs.out.2.2.2.2.1]
     have HEd:=Lib.hid (HEd.out.trans he6)
     clear he6 ho6
     obtain⟨⟨z1,z2,z3,_⟩,z4,z5⟩:=HCG.out _ HEd.out
     have hS6:(fun w':World=>w'.cell? ⟨bS,oS+d,none⟩=some (.int .i64 (sd:Int))∧w'.cell? ⟨bS,oS+m,none⟩=some (.int .i64 (sm:Int))∧w'.cell? ⟨w.heap.size,0,none⟩=some (.slice (some ⟨bS,oS,none⟩) n c0)∧w'.cell? ⟨g3,d,none⟩=some (.int .i64 qd)∧w'.cell? ⟨g3,m,none⟩=some (.int .i64 qm)) w6:=⟨z1,z2,z3,z4,z5⟩
     go_simp
     refine hK.out _ _ hS6 (fun hHeld6=>?_)
     clear hHeld
     refine tk 3 (v:=?f2_3) ?g2_3 ?_
     case g2_3=>(intro w' ⟨s0,s1,s2,s3,s4⟩;go_simp;try with_reducible rfl)
     try simp only[Act.put,rd]
     refine tk 4 (v:=(.bool false)) ?g2_4 ?_
     case g2_4=>(intro w' ⟨s0,s1,s2,s3,s4⟩;go_simp;try with_reducible rfl)
     try simp only[Act.put,rd]
     refine tk 5 (v:=(.bool false)) ?g2_5 ?_
     case g2_5=>(intro w' ⟨s0,s1,s2,s3,s4⟩;go_simp;try with_reducible rfl)
     try simp only[Act.put,rd]
     refine tk 6 (v:=?f2_6) ?g2_6 ?_
     case g2_6=>(intro w' ⟨s0,s1,s2,s3,s4⟩;go_simp;try with_reducible rfl)
     try simp only[Act.put,rd]
     refine tk 7 (v:=?f2_7) ?g2_7 ?_
     case g2_7=>(intro w' ⟨s0,s1,s2,s3,s4⟩;go_simp;try with_reducible rfl)
     try simp only[Act.put,rd]
     refine nx 8 fun K hK=>?_
     go_simp
     refine (HOM.out _ HEd.out).mono ?_
     rintro z w7 ⟨v6,rfl,he6,ho6⟩
     obtain⟨a7,c7,rfl,_⟩:=ho6.ints.open
     rw[toI_length,HQs.out.2.2.2.2.2]
     have HEd:=Lib.hid (HEd.out.trans he6)
     clear he6 ho6
     obtain⟨⟨z1,z2,z3,_⟩,z4,z5⟩:=HCG.out _ HEd.out
     have hS7:(fun w':World=>w'.cell? ⟨bS,oS+d,none⟩=some (.int .i64 (sd:Int))∧w'.cell? ⟨bS,oS+m,none⟩=some (.int .i64 (sm:Int))∧w'.cell? ⟨w.heap.size,0,none⟩=some (.slice (some ⟨bS,oS,none⟩) n c0)∧w'.cell? ⟨g3,d,none⟩=some (.int .i64 qd)∧w'.cell? ⟨g3,m,none⟩=some (.int .i64 qm)) w7:=⟨z1,z2,z3,z4,z5⟩
     go_simp
     refine hK.out _ _ hS7 (fun hHeld7=>?_)
     clear hHeld6
     refine tk 9 (v:=?f2_9) ?g2_9 ?_
     case g2_9=>(intro w' ⟨s0,s1,s2,s3,s4⟩;go_simp;try with_reducible rfl)
     try simp only[Act.put,rd]
     refine tk 10 (v:=(.bool true)) ?g2_10 ?_
     case g2_10=>(intro w' ⟨s0,s1,s2,s3,s4⟩;go_simp;try with_reducible rfl)
     try simp only[Act.put,rd]
     refine tk 11 (v:=(.bool true)) ?g2_11 ?_
     case g2_11=>(intro w' ⟨s0,s1,s2,s3,s4⟩;go_simp;try with_reducible rfl)
     try simp only[Act.put,rd]
     refine tk 12 (v:=(.bool true)) ?g2_12 ?_
     case g2_12=>(intro w' ⟨s0,s1,s2,s3,s4⟩;go_simp;try with_reducible rfl)
     try simp only[Act.put,rd]
     refine sk 13 ?_
     try simp only[Act.put,rd]
     refine sk 14 ?_
     try simp only[Act.put,rd]
     refine sk 15 ?_
     try simp only[Act.put,rd]
     refine sk 16 ?_
     try simp only[Act.put,rd]
     refine sk 17 ?_
     try simp only[Act.put,rd]
     refine sk 18 ?_
     try simp only[Act.put,rd]
     refine sk 19 ?_
     try simp only[Act.put,rd]
     refine sk 20 ?_
     try simp only[Act.put,rd]
     refine sk 21 ?_
     try simp only[Act.put,rd]
     refine tk 22 (v:=(.bool true)) ?g2_22 ?_
     case g2_22=>(intro w' ⟨s0,s1,s2,s3,s4⟩;go_simp;try with_reducible rfl)
     try simp only[Act.put,rd]
     refine tk 23 (v:=(.bool true)) ?g2_23 ?_
     case g2_23=>(intro w' ⟨s0,s1,s2,s3,s4⟩;go_simp;try with_reducible rfl)
     try simp only[Act.put,rd]
     refine sk 24 ?_
     try simp only[Act.put,rd]
     refine sk 25 ?_
     try simp only[Act.put,rd]
     refine sk 26 ?_
     try simp only[Act.put,rd]
     refine sk 27 ?_
     try simp only[Act.put,rd]
     refine sk 28 ?_
     try simp only[Act.put,rd]
     refine sk 29 ?_
     try simp only[Act.put,rd]
     refine sk 30 ?_
     try simp only[Act.put,rd]
     refine tk 31 (v:=(.bool true)) ?g2_31 ?_
     case g2_31=>(intro w' ⟨s0,s1,s2,s3,s4⟩;go_simp;try with_reducible rfl)
     try simp only[Act.put,rd]
     refine tk 32 (v:=(.bool true)) ?g2_32 ?_
     case g2_32=>(intro w' ⟨s0,s1,s2,s3,s4⟩;go_simp;try with_reducible rfl)
     try simp only[Act.put,rd]
     refine sk 33 ?_
     try simp only[Act.put,rd]
     refine sk 34 ?_
     try simp only[Act.put,rd]
     refine sk 35 ?_
     try simp only[Act.put,rd]
     refine sk 36 ?_
     try simp only[Act.put,rd]
     refine sk 37 ?_
     try simp only[Act.put,rd]
     refine sk 38 ?_
     try simp only[Act.put,rd]
     refine sk 39 ?_
     try simp only[Act.put,rd]
     refine tk 40 (v:=(.bool true)) ?g2_40 ?_
     case g2_40=>(intro w' ⟨s0,s1,s2,s3,s4⟩;go_simp;try with_reducible rfl)
     try simp only[Act.put,rd]
     refine wpAnyH_done (by kernel_rfl) ?_ _
     go_wp2_with fail
     go_meet
     exact⟨by rw[HB.out],HEd.out⟩
  ·have t1:((L1:Int) != 3)=true:=bne_iff_ne.2 (by omega)
   have hB:B=true:=by rw[HBq.out,decide_eq_false (fun h=>h1 (by first|exact h.1|exact h.1.1))];rfl
   have HB:=Lib.hid hB
   clear h1 hB
   have HEd:=HE5d
   as_aux_lemma=>
    refine wp_region_held_drew (S:=(fun w':World=>w'.cell? ⟨bS,oS+d,none⟩=some (.int .i64 (sd:Int))∧w'.cell? ⟨bS,oS+m,none⟩=some (.int .i64 (sm:Int))∧w'.cell? ⟨w.heap.size,0,none⟩=some (.slice (some ⟨bS,oS,none⟩) n c0)∧w'.cell? ⟨g3,d,none⟩=some (.int .i64 qd)∧w'.cell? ⟨g3,m,none⟩=some (.int .i64 qm))) (by kernel_rfl) ⟨z1,z2,z3,z4,z5⟩ (fun hHeld=>?_)
    refine tk 0 (v:=?f1_0) ?g1_0 ?_
    case g1_0=>(intro w' ⟨s0,s1,s2,s3,s4⟩;go_simp;try with_reducible rfl)
    try simp only[Act.put,rd]
    refine tk 1 (v:=?f1_1) ?g1_1 ?_
    case g1_1=>(intro w' ⟨s0,s1,s2,s3,s4⟩;go_simp;try with_reducible rfl)
    try simp only[Act.put,rd]
    refine nx 2 fun K hK=>?_
    go_simp
    refine (HOD.out _ HEd.out).mono ?_
    rintro z w6 ⟨v6,rfl,he6,ho6⟩
    obtain⟨a6,c6,rfl,_⟩:=ho6.ints.open
    rw[toI_length,HQs.out.2.2.2.2.1]
    have HEd:=Lib.hid (HEd.out.trans he6)
    clear he6 ho6
    obtain⟨⟨z1,z2,z3,_⟩,z4,z5⟩:=HCG.out _ HEd.out
    have hS6:(fun w':World=>w'.cell? ⟨bS,oS+d,none⟩=some (.int .i64 (sd:Int))∧w'.cell? ⟨bS,oS+m,none⟩=some (.int .i64 (sm:Int))∧w'.cell? ⟨w.heap.size,0,none⟩=some (.slice (some ⟨bS,oS,none⟩) n c0)∧w'.cell? ⟨g3,d,none⟩=some (.int .i64 qd)∧w'.cell? ⟨g3,m,none⟩=some (.int .i64 qm)) w6:=⟨z1,z2,z3,z4,z5⟩
    go_simp
    refine hK.out _ _ hS6 (fun hHeld6=>?_)
    clear hHeld
    refine tk 3 (v:=?f1_3) ?g1_3 ?_
    case g1_3=>(intro w' ⟨s0,s1,s2,s3,s4⟩;go_simp;try with_reducible rfl)
    try simp only[Act.put,rd]
    refine tk 4 (v:=(.bool true)) ?g1_4 ?_
    case g1_4=>(intro w' ⟨s0,s1,s2,s3,s4⟩;go_simp;try with_reducible rfl)
    try simp only[Act.put,rd]
    refine tk 5 (v:=(.bool true)) ?g1_5 ?_
    case g1_5=>(intro w' ⟨s0,s1,s2,s3,s4⟩;go_simp;try with_reducible rfl)
    try simp only[Act.put,rd]
    refine sk 6 ?_
    try simp only[Act.put,rd]
    refine sk 7 ?_
    try simp only[Act.put,rd]
    refine sk 8 ?_
    try simp only[Act.put,rd]
    refine sk 9 ?_
    try simp only[Act.put,rd]
    refine sk 10 ?_
    try simp only[Act.put,rd]
    refine tk 11 (v:=(.bool true)) ?g1_11 ?_
    case g1_11=>(intro w' ⟨s0,s1,s2,s3,s4⟩;go_simp;try with_reducible rfl)
    try simp only[Act.put,rd]
    refine tk 12 (v:=(.bool true)) ?g1_12 ?_
    case g1_12=>(intro w' ⟨s0,s1,s2,s3,s4⟩;go_simp;try with_reducible rfl)
    try simp only[Act.put,rd]
    refine sk 13 ?_
    try simp only[Act.put,rd]
    refine sk 14 ?_
    try simp only[Act.put,rd]
    refine sk 15 ?_
    try simp only[Act.put,rd]
    refine sk 16 ?_
    try simp only[Act.put,rd]
    refine sk 17 ?_
    try simp only[Act.put,rd]
    refine sk 18 ?_
    try simp only[Act.put,rd]
    refine sk 19 ?_
    try simp only[Act.put,rd]
    refine sk 20 ?_
    try simp only[Act.put,rd]
    refine sk 21 ?_
    try simp only[Act.put,rd]
    refine tk 22 (v:=(.bool true)) ?g1_22 ?_
    case g1_22=>(intro w' ⟨s0,s1,s2,s3,s4⟩;go_simp;try with_reducible rfl)
    try simp only[Act.put,rd]
    refine tk 23 (v:=(.bool true)) ?g1_23 ?_
    case g1_23=>(intro w' ⟨s0,s1,s2,s3,s4⟩;go_simp;try with_reducible rfl)
    try simp only[Act.put,rd]
    refine sk 24 ?_
    try simp only[Act.put,rd]
    refine sk 25 ?_
    try simp only[Act.put,rd]
    refine sk 26 ?_
    try simp only[Act.put,rd]
    refine sk 27 ?_
    try simp only[Act.put,rd]
    refine sk 28 ?_
    try simp only[Act.put,rd]
    refine sk 29 ?_
    try simp only[Act.put,rd]
    refine sk 30 ?_
    try simp only[Act.put,rd]
    refine tk 31 (v:=(.bool true)) ?g1_31 ?_
    case g1_31=>(intro w' ⟨s0,s1,s2,s3,s4⟩;go_simp;try with_reducible rfl)
    try simp only[Act.put,rd]
    refine tk 32 (v:=(.bool true)) ?g1_32 ?_
    case g1_32=>(intro w' ⟨s0,s1,s2,s3,s4⟩;go_simp;try with_reducible rfl)
    try simp only[Act.put,rd]
    refine sk 33 ?_
    try simp only[Act.put,rd]
    refine sk 34 ?_
    try simp only[Act.put,rd]
    refine sk 35 ?_
    try simp only[Act.put,rd]
    refine sk 36 ?_
    try simp only[Act.put,rd]
    refine sk 37 ?_
    try simp only[Act.put,rd]
    refine sk 38 ?_
    try simp only[Act.put,rd]
    refine sk 39 ?_
    try simp only[Act.put,rd]
    refine tk 40 (v:=(.bool true)) ?g1_40 ?_
    case g1_40=>(intro w' ⟨s0,s1,s2,s3,s4⟩;go_simp;try with_reducible rfl)
    try simp only[Act.put,rd]
    refine wpAnyH_done (by kernel_rfl) ?_ _
    go_wp2_with fail
    go_meet
    exact⟨by rw[HB.out],HEd.out⟩
 case rest=>
  obtain⟨rfl,hex⟩:=hcut
  obtain⟨wx,hwx⟩:∃ x,x=wc:=⟨_,rfl⟩
  subst hwx
  have HEx:=Lib.hid (HE5.out.trans hex)
  have HRx:=Lib.hid (HR5.out.ev hex)
  have HO4x:=Lib.hid (HO4.out.ev hex)
  have HSzx:=Lib.hid (show w4.heap.size≤wx.heap.size from Nat.le_trans HSz45.out hex.size)
  clear hex z1 z2 z3 z4 z5
  by_cases hc:L1=3∧L2=3∧qd≠qm∧sd≠d∧sm≠m
  ·have hB:B=false:=by rw[HBq.out,decide_eq_true hc];rfl
   subst hB
   have HC:=Lib.hid hc
   obtain⟨fa,hfa⟩:∃ x,at' (invL s) f2=x:=⟨_,rfl⟩
   obtain⟨fb,hfb⟩:∃ x,at' (invL s) f4=x:=⟨_,rfl⟩
   have hpf:=HPf.out
   have hmk:(orbitL (phiL s) d).length=3∧(orbitL (phiL s) m).length=3∧at' (phiL s) (at' (phiL s) d)=f2∧at' (phiL s) (at' (phiL s) m)=f4:=by
    rw[hpf,HF.out.1,HF.out.2.1,HF.out.2.2.1,HF.out.2.2.2]
    exact⟨by rw[HQs.out.2.2.2.2.1];exact hc.1,by rw[HQs.out.2.2.2.2.2];exact hc.2.1,rfl,rfl⟩
   have hdl:d<s.length:=by rw[HNn.out];exact hd
   have hml:m<s.length:=by rw[HNn.out];exact hmm
   have hev':s.length % 2=0:=by rw[HNn.out];exact hev
   have hpp:=phiL_perm HS.out hev'
   have hnfa:namesL (phiL s)=NF:=by rw[hpf];exact HNf.out
   have hnq:nth (namesL (phiL s)) d≠nth (namesL (phiL s)) m:=by rw[hnfa,HQs.out.1,HQs.out.2.1];exact hc.2.2.1
   have k3:m∉orbitL (phiL s) d:=fun h=>hnq ((names_orbit hpp (k:=d) (by rw[phiL_length];exact hdl)).1 h).2.symm
   have k4:d∉orbitL (phiL s) m:=fun h=>hnq ((names_orbit hpp (k:=m) (by rw[phiL_length];exact hml)).1 h).2
   have h1:at' s d≠d:=by rw[HQs.out.2.2.1];exact hc.2.2.2.1
   have h2:at' s m≠m:=by rw[HQs.out.2.2.2.1];exact hc.2.2.2.2
   have hfd:=flip_darts HS.out hev' HMe.out hdl hml hmk.1 hmk.2.1 k3 k4 h1 h2
   rw[hmk.2.2.1,hmk.2.2.2,hfa,hfb] at hfd
   obtain⟨t1,t2,t3,t4,t5,t6,t7,t8⟩:=hfd
   have hrw0:=flip_rows HS.out HMe.out hdl hml (by rw[hmk.2.2.1];exact hfa) (by rw[hmk.2.2.2];exact hfb) t3 t4 h1 h2 t1 t2 t5 t6 t7 t8
   have r0:=lists_rowsF HS.out
   rw[HXs.out] at r0 hrw0
   have s1:=r0.without d
   have s2:=s1.without m
   have s3:=s2.after (t:=fa) (d:=d) ⟨⟨t3,t5⟩,t6⟩ (fun h=>h.1.2 rfl)
   simp only[HNn.out] at s1 s2 s3 t3 t4
   have hllx:=HLl.out
   have HSm1:=Lib.hid (s1.sm (N:=n) (fun y hy=>hy.1) (by omega) (by simp only[outL_length];omega))
   have HSm2:=Lib.hid (s2.sm (N:=n) (fun y hy=>hy.1.1) (by omega) (by simp only[outL_length];omega))
   have HSm3:=Lib.hid (s3.sm (N:=n) (fun y hy=>hy.elim (fun h=>h.1.1) (fun h=>by omega)) (by omega) (by simp only[outL_length];omega))
   have HRw:=Lib.hid hrw0
   have HTl:=Lib.hid (show (flipL s d).length=n by rw[flipL_length,HNn.out])
   obtain⟨g4,rfl,_,_,hca,_⟩:=HO4x.out.headAt (by rw[toI_length];exact hivl) hq2
   obtain⟨g4',e4',_,_,hcb,_⟩:=HO4x.out.headAt (by rw[toI_length];exact hivl) hq4
   cases e4'
   rw[toI_nth,hfa] at hca
   rw[toI_nth,hfb] at hcb
   have HCa:=Lib.hid (fun w' (h:Ev R wx R w')=>(by
    obtain⟨g,e,_,_,h1,_⟩:=(HO4x.out.ev h).headAt (by rw[toI_length];exact hivl) hq2
    cases e
    rw[toI_nth,hfa] at h1
    exact h1:w'.cell? ⟨g4,f2,none⟩=some (.int .i64 (fa:Int))))
   have HCb:=Lib.hid (fun w' (h:Ev R wx R w')=>(by
    obtain⟨g,e,_,_,h1,_⟩:=(HO4x.out.ev h).headAt (by rw[toI_length];exact hivl) hq4
    cases e
    rw[toI_nth,hfb] at h1
    exact h1:w'.cell? ⟨g4,f4,none⟩=some (.int .i64 (fb:Int))))
   have hfal:fa≤1000000:=by omega
   have hfbl:fb≤1000000:=by omega
   have HYx:=Lib.hid (Ev.refl HEx.out.inv)
   clear hc hfa hfb hpf hmk hdl hml hev' hpp hnfa hnq k3 k4 h1 h2 t1 t2 t3 t4 t5 t6 t7 t8 hrw0 r0 s1 s2 s3 hllx hca hcb
   go_wp2_with fail
   refine (without_any R _ HEx.out.inv _ _ (xss) HRx.out HSm.out d (by omega)).mono ?_
   rintro z w6 ⟨a6,c6,vs6,rfl,he6,hov6,hrw6⟩
   have hL6:(outL (witF d) xss).length=l5:=by simp only[outL_length];exact HL5.out
   have hR6:RowsAt R wx.heap.size w6 (.slice a6 (outL (witF d) xss).length c6) (outL (witF d) xss):=⟨a6,c6,vs6,rfl,hov6,hrw6⟩
   rw[hL6] at hR6 hov6 hrw6 ⊢
   have HE6:=Lib.hid (HEx.out.trans he6)
   have HR6:=Lib.hid hR6
   have HV6:=Lib.hid hov6
   have HW6:=Lib.hid hrw6
   have HL6:=Lib.hid hL6
   have HSz6:=Lib.hid he6.size
   have HY6:=Lib.hid (HYx.out.trans he6)
   clear he6 hov6 hrw6 hL6 hR6
   go_wp2_with fail
   refine (without_any R _ HE6.out.inv _ _ (outL (witF d) xss) HR6.out HSm1.out m (by omega)).mono ?_
   rintro z w7 ⟨a7,c7,vs7,rfl,he7,hov7,hrw7⟩
   have hL7:(outL (witF m) (outL (witF d) xss)).length=l5:=by simp only[outL_length];exact HL5.out
   have hR7:RowsAt R w6.heap.size w7 (.slice a7 (outL (witF m) (outL (witF d) xss)).length c7) (outL (witF m) (outL (witF d) xss)):=⟨a7,c7,vs7,rfl,hov7,hrw7⟩
   rw[hL7] at hR7 hov7 hrw7 ⊢
   have HE7:=Lib.hid (HE6.out.trans he7)
   have HR7:=Lib.hid hR7
   have HV7:=Lib.hid hov7
   have HW7:=Lib.hid hrw7
   have HL7:=Lib.hid hL7
   have HSz7:=Lib.hid he7.size
   have HY7:=Lib.hid (HY6.out.trans he7)
   clear he7 hov7 hrw7 hL7 hR7
   go_wp2_with fail
   have HE7d:=Lib.hid (HE7.out.trans (Ev.refl HE7.out.inv).drew)
   have HY7d:=Lib.hid (HY7.out.trans (Ev.refl HE7.out.inv).drew)
   have HR7d:=Lib.hid (HR7.out.ev (Ev.refl HE7.out.inv).drew)
   have yA:=HCa.out _ HY7d.out
   have yB:=HCb.out _ HY7d.out
   as_aux_lemma=>
    refine wp_region_held_drew (S:=(fun w':World=>w'.cell? ⟨g4,f2,none⟩=some (.int .i64 (fa:Int))∧w'.cell? ⟨g4,f4,none⟩=some (.int .i64 (fb:Int)))) (by kernel_rfl) ⟨yA,yB⟩ (fun hHeld=>?_)
    refine tk 0 (v:=?r0) ?q0 ?_
    case q0=>(intro w' ⟨s0,s1⟩;go_simp;try with_reducible rfl)
    try simp only[Act.put,rd]
    refine tk 1 (v:=?r1) ?q1 ?_
    case q1=>(intro w' ⟨s0,s1⟩;go_simp;try with_reducible rfl)
    try simp only[Act.put,rd]
    refine tk 2 (v:=?r2) ?q2 ?_
    case q2=>(intro w' ⟨s0,s1⟩;go_simp;try with_reducible rfl)
    try simp only[Act.put,rd]
    refine tk 3 (v:=?r3) ?q3 ?_
    case q3=>(intro w' ⟨s0,s1⟩;go_simp;try with_reducible rfl)
    try simp only[Act.put,rd]
    refine tk 4 (v:=?r4) ?q4 ?_
    case q4=>(intro w' ⟨s0,s1⟩;go_simp;try with_reducible rfl)
    try simp only[Act.put,rd]
    refine tk 5 (v:=?r5) ?q5 ?_
    case q5=>(intro w' ⟨s0,s1⟩;go_simp;try with_reducible rfl)
    try simp only[Act.put,rd]
    refine tk 7 (v:=?r7) ?q7 ?_
    case q7=>(intro w' ⟨s0,s1⟩;go_simp;try with_reducible rfl)
    try simp only[Act.put,rd]
    refine tk 8 (v:=?r8) ?q8 ?_
    case q8=>(intro w' ⟨s0,s1⟩;go_simp;try with_reducible rfl)
    try simp only[Act.put,rd]
    refine tk 9 (v:=?r9) ?q9 ?_
    case q9=>(intro w' ⟨s0,s1⟩;go_simp;try with_reducible rfl)
    try simp only[Act.put,rd]
    refine tk 10 (v:=?r10) ?q10 ?_
    case q10=>(intro w' ⟨s0,s1⟩;go_simp;try with_reducible rfl)
    try simp only[Act.put,rd]
    refine tk 11 (v:=?r11) ?q11 ?_
    case q11=>(intro w' ⟨s0,s1⟩;go_simp;try with_reducible rfl)
    try simp only[Act.put,rd]
    refine nx 6 fun K hK=>?_
    go_simp
    refine (after_any R _ HE7d.out.inv _ _ (outL (witF m) (outL (witF d) xss)) HR7d.out HSm2.out fa d (by omega) (by omega)).mono ?_
    rintro z w8 ⟨a8,c8,vs8,rfl,he8,hov8,hrw8⟩
    have hL8:(outL (aftF fa d) (outL (witF m) (outL (witF d) xss))).length=l5:=by simp only[outL_length];exact HL5.out
    have hR8:RowsAt R w7.drew.heap.size w8 (.slice a8 (outL (aftF fa d) (outL (witF m) (outL (witF d) xss))).length c8) (outL (aftF fa d) (outL (witF m) (outL (witF d) xss))):=⟨a8,c8,vs8,rfl,hov8,hrw8⟩
    rw[hL8] at hR8 ⊢
    have HEE8:=Lib.hid (HE7d.out.trans he8)
    have HY8:=Lib.hid (HY7d.out.trans he8)
    have HRA8:=Lib.hid hR8
    have hS8:(fun w':World=>w'.cell? ⟨g4,f2,none⟩=some (.int .i64 (fa:Int))∧w'.cell? ⟨g4,f4,none⟩=some (.int .i64 (fb:Int))) w8:=⟨HCa.out _ HY8.out,HCb.out _ HY8.out⟩
    clear he8 hov8 hrw8 hL8 hR8
    go_simp
    refine hK.out _ _ hS8 (fun hHeld8=>?_)
    clear hHeld
    refine nx 12 fun K hK=>?_
    go_simp
    refine (after_any R _ HEE8.out.inv _ _ (outL (aftF fa d) (outL (witF m) (outL (witF d) xss))) HRA8.out HSm3.out fb m (by omega) (by omega)).mono ?_
    rintro z w9 ⟨a9,c9,vs9,rfl,he9,hov9,hrw9⟩
    have hL9:(outL (aftF fb m) (outL (aftF fa d) (outL (witF m) (outL (witF d) xss)))).length=l5:=by simp only[outL_length];exact HL5.out
    have hR9:RowsAt R w8.heap.size w9 (.slice a9 (outL (aftF fb m) (outL (aftF fa d) (outL (witF m) (outL (witF d) xss)))).length c9) (outL (aftF fb m) (outL (aftF fa d) (outL (witF m) (outL (witF d) xss)))):=⟨a9,c9,vs9,rfl,hov9,hrw9⟩
    rw[hL9] at hR9 ⊢
    have HEE9:=Lib.hid (HEE8.out.trans he9)
    have HY9:=Lib.hid (HY8.out.trans he9)
    have HRA9:=Lib.hid hR9
    have hS9:(fun w':World=>w'.cell? ⟨g4,f2,none⟩=some (.int .i64 (fa:Int))∧w'.cell? ⟨g4,f4,none⟩=some (.int .i64 (fb:Int))) w9:=⟨HCa.out _ HY9.out,HCb.out _ HY9.out⟩
    clear he9 hov9 hrw9 hL9 hR9
    go_simp
    refine hK.out _ _ hS9 (fun hHeld9=>?_)
    clear hHeld8
    refine tk 13 (v:=?r13) ?q13 ?_
    case q13=>(intro w' ⟨s0,s1⟩;go_simp;try with_reducible rfl)
    try simp only[Act.put,rd]
    refine wpAnyH_done (by kernel_rfl) ?_ _
    clear hHeld9 hS8 hS9 yA yB
    obtain⟨x0,x1,x2,_⟩:=HB1.out w9 HEE9.out
    go_wp2_with fail
    refine (r23made_any R _ HEE9.out.inv _ _ _ HRA9.out (HRw.out.sm (by have:=HTl.out;omega) (by have:=HLb.out;have:=HL5.out; simp[outL_length];omega)) _ HRw.out.lens HRw.out.below (by have:=HTl.out;omega) root lone).mono ?_
    rintro z w9e ⟨af,cf,rfl,hef,hof⟩
    rw[HRw.out.lay] at hof ⊢
    have HEf:=Lib.hid (HEE9.out.trans hef)
    have HOf:=Lib.hid hof
    have HSf:=Lib.hid HEE9.out.size
    clear hef hof x0 x1 x2
    obtain⟨y0,y1,y2,yz⟩:=boxC_cells (HB2.out _ HEf.out).1
    obtain⟨lf,hlf⟩:∃ l,(flipL s d).length=l:=⟨_,rfl⟩
    rw[hlf] at HOf
    try rw[hlf]
    have HLF:=Lib.hid hlf
    clear hlf
    simp only[refV]
    go_wp2_with fail
    have hb3:=set3 (x:=.slice af lf cf) (y:=.int .i64 root) (z:=.int .i64 lone) (HB2.out _ HEf.out).1
    obtain⟨u0,u1,u2,_⟩:=boxC_cells hb3
    have hn2:=(HB2.out _ HEf.out).2
    have hne:∀ (o:Nat),(Value.slice af lf cf).ownBlock≠some (⟨w.heap.size+1,o,none⟩:Addr).block:=fun o e'=>by
     have h1:=(HOf.out.lt _ e').1
     have h2:=HZa.out
     have h4:=HSf.out
     have h3:(⟨w.heap.size+1,o,none⟩:Addr).block=w.heap.size+1:=rfl
     omega
    try simp only[Exit.inBlock,Exit.then]
    refine bodyPost_ret (v:=.tuple #[refV (.slice af lf cf) root lone,.int .i64 0]) ?_ rfl (Or.inl ⟨HC.out.1,HC.out.2.1,HC.out.2.2.1,HC.out.2.2.2.1,HC.out.2.2.2.2,⟨af,cf,by rw[HLF.out],?_,?_⟩⟩)
    ·simp[results,Try.results8,go_sem,u0,u1,u2,refV]
    ·exact (((HEa.out.trans HEf.out).setCell (by simp) hn2 _).setCell (by simp) hn2 _).setCell (by simp) hn2 _
    ·rw[HLF.out]
     exact (((HOf.out.mono (by have:=HSf.out;have:=HZa.out;omega)).setCell (hne 0) _).setCell (hne 1) _).setCell (hne 2) _
  ·have hB:B=true:=by rw[HBq.out,decide_eq_false hc];rfl
   subst hB
   have HQ:=Lib.hid hc
   clear hc
   obtain⟨x0,x1,x2,_⟩:=HB1.out wx HEx.out
   obtain⟨y0,y1,y2,yz⟩:=boxC_cells (HB2.out _ HEx.out).1
   go_wp2_with fail
   have hb3:=set3 (x:=.slice (some ⟨bS,oS,none⟩) n c0) (y:=.int .i64 root) (z:=.int .i64 lone) (HB2.out _ HEx.out).1
   obtain⟨u0,u1,u2,_⟩:=boxC_cells hb3
   have hn2:=(HB2.out _ HEx.out).2
   refine bodyPost_ret (v:=.tuple #[refV (.slice (some ⟨bS,oS,none⟩) n c0) root lone,.int .i64 8]) ?_ rfl (Or.inr ⟨HQ.out,rfl,?_⟩)
   ·simp[results,Try.results8,go_sem,u0,u1,u2,refV]
   ·exact ((((HEa.out.trans HEx.out).setCell (by simp) hn2 _).setCell (by simp) hn2 _).setCell (by simp) hn2 _)
end Go.Proofs.Ytklkgicjfnbndaa
