/- parquetryref23.Do: a split. -/
import Derived.Test.YtklkgicjfnbndaaZGrowPlays38
import Derived.Test.YtklkgicjfnbndaaZGrowPlays35
namespace Go.Proofs.Ytklkgicjfnbndaa
section
open Go.RowKit
set_option linter.unusedVariables false
set_option maxRecDepth 100000 in
set_option maxHeartbeats 2000000 in
theorem do_split (R:Reg) (w:World) (hI:Inv R w) (v:Value) (s:List Nat) (root lone:Int) (hv:FreeI R w v (toI s)) (hS:IsPerm s) (hn:s.length≤99000) (hev:s.length % 2=0) (d:Nat) (hd:d<s.length) (e:Int):
  Calls Try.prog 8 #[refV v root lone,.int .i64 2,.int .i64 (d:Int),.int .i64 e] w (RetDo R w (splitL s d) root lone):=by
 obtain⟨a0,c0,rfl,_⟩:=hv.open
 rw[toI_length] at hv ⊢
 unfold refV
 have hp:=phiL_perm hS hev
 have hpl:=phiL_length s
 have hdm:=xor_one_lt hev hd
 have hmm:d ^^^ 1<s.length:=hdm
 have HPh:=Lib.hid (fun w' (he:Ev R w R w')=>rphi_any R w' he.inv _ s root lone (hv.ev he) (by omega) hev)
 have HNm:=Lib.hid (fun w' v' (hI':Inv R w') (h:FreeI R w' v' (toI (phiL s)))=>rnames_any R w' hI' v' (phiL s) h hp (by omega))
 have HIv:=Lib.hid (fun w' (he:Ev R w R w')=>rinverse_any R w' he.inv _ s (hv.ev he) hS (by omega))
 have HMt:=Lib.hid (fun w'=>rmate_any w' d (by omega))
 have HLs:=Lib.hid (fun w' (he:Ev R w R w')=>r23lists_any R w' he.inv _ s root lone (hv.ev he) hS (by omega))
 have hsm:=lists_sm hS (by omega)
 have hll:=Nat.le_trans (listsL_len s s.length) (Nat.le_trans hn (by decide:99000≤99000))
 have hivl:=invL_length s
 have he0:Ev R w R (w.alloc (.cells #[.slice a0 s.length c0,.int .i64 root,.int .i64 lone] 27)):=(Ev.refl hI).alloc _
 have he01:Ev R (w.alloc (.cells #[.slice a0 s.length c0,.int .i64 root,.int .i64 lone] 27)) R ((w.alloc (.cells #[.slice a0 s.length c0,.int .i64 root,.int .i64 lone] 27)).alloc (.cells #[.slice none 0 0,.int .i64 0,.int .i64 0] 27)):=(Ev.refl he0.inv).alloc _
 have he1:Ev R w R ((w.alloc (.cells #[.slice a0 s.length c0,.int .i64 root,.int .i64 lone] 27)).alloc (.cells #[.slice none 0 0,.int .i64 0,.int .i64 0] 27)):=he0.trans he01
 have hn1:R w.heap.size=none:=hI.none_of_ge (Nat.le_refl _)
 have hB1:=fun w' (h:Ev R ((w.alloc (.cells #[.slice a0 s.length c0,.int .i64 root,.int .i64 lone] 27)).alloc (.cells #[.slice none 0 0,.int .i64 0,.int .i64 0] 27)) R w')=>(he01.trans h).boxC3 (heap_alloc_new w _) hn1
 have hB2:=fun w' (h:Ev R ((w.alloc (.cells #[.slice a0 s.length c0,.int .i64 root,.int .i64 lone] 27)).alloc (.cells #[.slice none 0 0,.int .i64 0,.int .i64 0] 27)) R w')=>h.boxC3 (heap_alloc_new (w.alloc (.cells #[.slice a0 s.length c0,.int .i64 root,.int .i64 lone] 27)) (.cells #[.slice none 0 0,.int .i64 0,.int .i64 0] 27)) (he0.inv.none_of_ge (Nat.le_refl _))
 have hza:((w.alloc (.cells #[.slice a0 s.length c0,.int .i64 root,.int .i64 lone] 27)).alloc (.cells #[.slice none 0 0,.int .i64 0,.int .i64 0] 27)).heap.size=w.heap.size+2:=by simp
 rw[World.size_alloc] at hB2
 obtain⟨n,hnn⟩:∃ n,s.length=n:=⟨_,rfl⟩
 obtain⟨m,hm⟩:∃ m,d ^^^ 1=m:=⟨_,rfl⟩
 obtain⟨xss,hxs⟩:∃ x,listsL s s.length=x:=⟨_,rfl⟩
 have HXs:=Lib.hid hxs
 rw[hnn] at hxs
 rw[hm] at HMt hmm
 rw[HXs.out] at hsm hll
 rw[hnn,hxs] at HLs
 rw[hnn] at HPh HIv he0 he01 he1 hB1 hB2 hza hpl hivl hn hd hev hmm ⊢
 have hrw0:=split_rows hS hm (by omega)
 have hs6:=(((lists_rowsF hS).after (t:=m) (d:=s.length+1) (by omega) (by omega))).sm (N:=n+2) (fun y hy=>by rcases hy with h|h <;> omega) (by omega) (by rw[outL_length,HXs.out];omega)
 rw[hnn,hxs] at hrw0 hs6
 have HRw:=Lib.hid hrw0
 have HSm6:=Lib.hid hs6
 have HTl:=Lib.hid (show (splitL s d).length=n+2 by rw[splitL_length,hnn])
 clear hrw0 hs6
 have HNn:=Lib.hid hnn
 have HMe:=Lib.hid hm
 have HS:=Lib.hid hS
 have HSm:=Lib.hid hsm
 have HLl:=Lib.hid hll
 have HHv:=Lib.hid hv
 clear hI hv hS hnn hm hsm hll hxs hp
 go_enter Try.func8,Try.ntmps8
 go_upto_region 1 with fail
 obtain⟨wa,hwa⟩:∃ wa,(w.alloc (.cells #[.slice a0 n c0,.int .i64 root,.int .i64 lone] 27)).alloc (.cells #[.slice none 0 0,.int .i64 0,.int .i64 0] 27)=wa:=⟨_,rfl⟩
 try rw[hwa] at he1 hB1 hB2 hza ⊢
 have HB1:=Lib.hid (fun w' (h:Ev R wa R w')=>boxC_cells (hB1 w' h).1)
 have HB2:=Lib.hid hB2
 have HZa:=Lib.hid hza
 have HEa:=Lib.hid he1
 obtain⟨x0,x1,x2,_⟩:=HB1.out _ (Ev.refl he1.inv)
 have hdr:decide ((d:Int)<0)=false:=by simp
 have hdr2:decide ((n:Int)≤(d:Int))=false:=by simp;omega
 clear he0 he01 he1 hB1 hB2 hza hwa hn1
 go_wp2_with fail
 refine (HPh.out _ HEa.out).mono ?_
 rintro z w2 ⟨v2,rfl,he2,ho2⟩
 obtain⟨a2,c2,rfl,_⟩:=ho2.ints.open
 rw[toI_length,hpl] at ho2 ⊢
 have HE2:=Lib.hid he2
 have HO2:=Lib.hid ho2
 clear he2 ho2 x0 x1 x2
 go_wp2_with fail
 refine (HNm.out _ _ HE2.out.inv HO2.out.free).mono ?_
 rintro z w3 ⟨v3,rfl,he3,ho3⟩
 obtain⟨a3,c3,rfl,_⟩:=ho3.ints.open
 rw[namesL_length,hpl] at ho3 ⊢
 have HE3:=Lib.hid (HE2.out.trans he3)
 have HO3:=Lib.hid ho3
 have HO2:=Lib.hid (HO2.out.ev he3)
 obtain⟨x0,x1,x2,_⟩:=HB1.out w3 HE3.out
 clear he3 ho3
 go_wp2_with fail
 refine (HIv.out _ (HEa.out.trans HE3.out)).mono ?_
 rintro z w4 ⟨v4,rfl,he4,ho4⟩
 obtain⟨a4,c4,rfl,_⟩:=ho4.ints.open
 rw[toI_length,hivl] at ho4 ⊢
 have HE4:=Lib.hid (HE3.out.trans he4)
 have HO4:=Lib.hid ho4
 have HO2:=Lib.hid (HO2.out.ev he4)
 have HO3:=Lib.hid (HO3.out.ev he4)
 clear he4 ho4 x0 x1 x2
 go_wp2_with fail
 refine (HMt.out _).mono ?_
 rintro z w4' ⟨rfl,rfl⟩
 obtain⟨x0,x1,x2,_⟩:=HB1.out w4 HE4.out
 go_wp2_with fail
 refine (HLs.out _ (HEa.out.trans HE4.out)).mono ?_
 rintro z w5 ⟨a5,c5,vs5,rfl,he5,hov5,hrw5⟩
 have hR5:RowsAt R w4.heap.size w5 (.slice a5 xss.length c5) xss:=⟨a5,c5,vs5,rfl,hov5,hrw5⟩
 have HE5:=Lib.hid (HE4.out.trans he5)
 have HR5:=Lib.hid hR5
 have HO2:=Lib.hid (HO2.out.ev he5)
 have HO3:=Lib.hid (HO3.out.ev he5)
 have HO4:=Lib.hid (HO4.out.ev he5)
 obtain⟨l5,hl5⟩:∃ l,xss.length=l:=⟨_,rfl⟩
 try rw[hl5]
 rw[hl5] at HR5
 have HL5:=Lib.hid hl5
 have HLb:=Lib.hid (show l5≤99000 by rw[←hl5];exact HLl.out)
 clear he5 hov5 hrw5 hR5 hl5 x0 x1 x2
 go_wp2_with fail
 refine (after_any R _ HE5.out.inv _ _ (xss) HR5.out HSm.out m (n+1) (by omega) (by omega)).mono ?_
 rintro z w6 ⟨a6,c6,vs6,rfl,he6,hov6,hrw6⟩
 have hL6:(outL (aftF m (n+1)) xss).length=l5:=by simp only[outL_length];exact HL5.out
 have hR6:RowsAt R w5.heap.size w6 (.slice a6 (outL (aftF m (n+1)) xss).length c6) (outL (aftF m (n+1)) xss):=⟨a6,c6,vs6,rfl,hov6,hrw6⟩
 rw[hL6] at hR6 hov6 hrw6 ⊢
 have HE6:=Lib.hid (HE5.out.trans he6)
 have HR6:=Lib.hid hR6
 have HV6:=Lib.hid hov6
 have HW6:=Lib.hid hrw6
 have HL6:=Lib.hid hL6
 have HSz6:=Lib.hid he6.size
 clear he6 hov6 hrw6 hL6 hR6
 go_wp2_with fail
 refine (without_any R _ HE6.out.inv _ _ (outL (aftF m (n+1)) xss) HR6.out HSm6.out m (by omega)).mono ?_
 rintro z w7 ⟨a7,c7,vs7,rfl,he7,hov7,hrw7⟩
 have hL7:(outL (witF m) (outL (aftF m (n+1)) xss)).length=l5:=by simp only[outL_length];exact HL5.out
 have hR7:RowsAt R w6.heap.size w7 (.slice a7 (outL (witF m) (outL (aftF m (n+1)) xss)).length c7) (outL (witF m) (outL (aftF m (n+1)) xss)):=⟨a7,c7,vs7,rfl,hov7,hrw7⟩
 rw[hL7] at hR7 hov7 hrw7 ⊢
 have HE7:=Lib.hid (HE6.out.trans he7)
 have HR7:=Lib.hid hR7
 have HV7:=Lib.hid hov7
 have HW7:=Lib.hid hrw7
 have HL7:=Lib.hid hL7
 have HSz7:=Lib.hid he7.size
 clear he7 hov7 hrw7 hL7 hR7
 have hE8:Ev R w7 R (w7.alloc (.cells #[.int .i64 ((n:Int)),.int .i64 ((m:Int))] 3)):=(Ev.refl HE7.out.inv).alloc _
 have hF8:Ev R (w7.alloc (.cells #[.int .i64 ((n:Int)),.int .i64 ((m:Int))] 3)) R ((w7.alloc (.cells #[.int .i64 ((n:Int)),.int .i64 ((m:Int))] 3)).alloc (.cells #[.slice (some ⟨w7.heap.size,0,none⟩) 2 2] 25)):=(Ev.refl hE8.inv).alloc _
 have HE8:=Lib.hid (HE7.out.trans (hE8.trans hF8))
 have HV8:=Lib.hid (HV7.out.ev (hE8.trans hF8))
 have HW8:=Lib.hid (HW7.out.ev (hE8.trans hF8))
 have HRo8:=Lib.hid ((rowOk_lit2 (x:=n) (y:=m) HE7.out.inv (x':=(n:Int)) (y':=(m:Int)) rfl rfl HV7.out).ev hF8)
 clear hE8 hF8
 go_wp2_with (at_builtin;refine wpList_app_row 59 25 1 24 nilS Try.underlying59 islice_info rfl (by decide) (by decide) rfl _ _ rfl HV8.out rfl ⟨w7.heap.size+1,0,none⟩ 1 1 [.slice (some ⟨w7.heap.size,0,none⟩) 2 2] rfl ?z0 ?z1 ?z2 ?z3 ?z4 ?z5 ?_)
 try (case z0=>first|rfl|simp)
 case z1=>exact one_cell_next _ _ _
 case z2=>exact one_one _ _ _
 case z3=>have:=HLb.out;omega
 case z4=>have:=HSz7.out;simp;omega
 case z5=>exact fun q hq=>HE8.out.inv.none_of_ge hq
 intro v8' w8 ho8 hg8 hs8
 have hra8:=rows_next (xss:=outL (witF m) (outL (aftF m (n+1)) xss)) HL7.out.symm HW8.out HRo8.out ho8 hg8 (fun q hq=>(hs8 q hq).imp id (fun h=>by first|exact h|simpa using h))
 have HEE8:=Lib.hid (HE8.out.appV HV8.out HE6.out.size hg8)
 have HRA8:=Lib.hid hra8
 clear hra8 ho8 hg8 hs8
 obtain⟨x0,x1,x2,_⟩:=HB1.out w8 HEE8.out
 go_wp2_with fail
 refine (r23made_any R _ HEE8.out.inv _ _ _ HRA8.out (HRw.out.sm (by have:=HTl.out;omega) (by have:=HLb.out;have:=HL5.out;simp[outL_length];omega)) _ HRw.out.lens HRw.out.below (by have:=HTl.out;omega) root lone).mono ?_
 rintro z w8e ⟨af,cf,rfl,hef,hof⟩
 rw[HRw.out.lay] at hof ⊢
 have HEf:=Lib.hid (HEE8.out.trans hef)
 have HOf:=Lib.hid hof
 have HSf:=Lib.hid HEE8.out.size
 clear hef hof x0 x1 x2
 obtain⟨y0,y1,y2,yz⟩:=boxC_cells (HB2.out _ HEf.out).1
 obtain⟨lf,hlf⟩:∃ l,(splitL s d).length=l:=⟨_,rfl⟩
 rw[hlf] at HOf
 try rw[hlf]
 have HLF:=Lib.hid hlf
 clear hlf
 simp only[refV]
 go_wp2_with fail
 have hb3:=set3 (x:=.slice af lf cf) (y:=.int .i64 root) (z:=.int .i64 lone) (HB2.out _ HEf.out).1
 obtain⟨u0,u1,u2,_⟩:=boxC_cells hb3
 have hn2:=(HB2.out _ HEf.out).2
 have hne:∀ (o:Nat),(Value.slice af lf cf).ownBlock≠some (⟨w.heap.size+1,o,none⟩:Addr).block:=fun o e'=>by
  have h1:=(HOf.out.lt _ e').1
  have h2:=HZa.out
  have h4:=HSf.out
  have h3:(⟨w.heap.size+1,o,none⟩:Addr).block=w.heap.size+1:=rfl
  omega
 try simp only[Exit.inBlock,Exit.then]
 refine bodyPost_ret (v:=.tuple #[refV (.slice af lf cf) root lone,.int .i64 0]) ?_ rfl (⟨af,cf,by rw[HLF.out],?_,?_⟩)
 ·simp[results,Try.results8,go_sem,u0,u1,u2,refV]
 ·exact (((HEa.out.trans HEf.out).setCell (by simp) hn2 _).setCell (by simp) hn2 _).setCell (by simp) hn2 _
 ·rw[HLF.out]
  exact (((HOf.out.mono (by have:=HSf.out;have:=HZa.out;omega)).setCell (hne 0) _).setCell (hne 1) _).setCell (hne 2) _
end
section
open Go.RowKit
set_option linter.unusedVariables false
set_option maxRecDepth 100000 in
set_option maxHeartbeats 2000000 in
theorem do_star (R:Reg) (w:World) (hI:Inv R w) (v:Value) (s:List Nat) (root lone:Int) (hv:FreeI R w v (toI s)) (hS:IsPerm s) (hn:s.length≤99000) (hev:s.length % 2=0) (d:Nat) (hd:d<s.length) (hob:s.length+2*(orbitL (phiL s) d).length≤99000) (e:Int):
  Calls Try.prog 8 #[refV v root lone,.int .i64 3,.int .i64 (d:Int),.int .i64 e] w (RetDo R w (starC s (orbitL (phiL s) d)) root lone):=by
 obtain⟨a0,c0,rfl,_⟩:=hv.open
 rw[toI_length] at hv ⊢
 unfold refV
 have hp:=phiL_perm hS hev
 have hpl:=phiL_length s
 have hdm:=xor_one_lt hev hd
 have hmm:d ^^^ 1<s.length:=hdm
 have HOd:=Lib.hid (fun w' v' (hI':Inv R w') (h:FreeI R w' v' (toI (phiL s)))=>rorbit_any R w' hI' v' (phiL s) h hp (by omega) d (by rw[hpl];exact hd))
 obtain⟨q1,q2,q3,_⟩:=star_face hS hev hd rfl
 have HPh:=Lib.hid (fun w' (he:Ev R w R w')=>rphi_any R w' he.inv _ s root lone (hv.ev he) (by omega) hev)
 have HNm:=Lib.hid (fun w' v' (hI':Inv R w') (h:FreeI R w' v' (toI (phiL s)))=>rnames_any R w' hI' v' (phiL s) h hp (by omega))
 have HIv:=Lib.hid (fun w' (he:Ev R w R w')=>rinverse_any R w' he.inv _ s (hv.ev he) hS (by omega))
 have HMt:=Lib.hid (fun w'=>rmate_any w' d (by omega))
 have HLs:=Lib.hid (fun w' (he:Ev R w R w')=>r23lists_any R w' he.inv _ s root lone (hv.ev he) hS (by omega))
 have hsm:=lists_sm hS (by omega)
 have hll:=Nat.le_trans (listsL_len s s.length) (Nat.le_trans hn (by decide:99000≤99000))
 have hivl:=invL_length s
 have he0:Ev R w R (w.alloc (.cells #[.slice a0 s.length c0,.int .i64 root,.int .i64 lone] 27)):=(Ev.refl hI).alloc _
 have he01:Ev R (w.alloc (.cells #[.slice a0 s.length c0,.int .i64 root,.int .i64 lone] 27)) R ((w.alloc (.cells #[.slice a0 s.length c0,.int .i64 root,.int .i64 lone] 27)).alloc (.cells #[.slice none 0 0,.int .i64 0,.int .i64 0] 27)):=(Ev.refl he0.inv).alloc _
 have he1:Ev R w R ((w.alloc (.cells #[.slice a0 s.length c0,.int .i64 root,.int .i64 lone] 27)).alloc (.cells #[.slice none 0 0,.int .i64 0,.int .i64 0] 27)):=he0.trans he01
 have hn1:R w.heap.size=none:=hI.none_of_ge (Nat.le_refl _)
 have hB1:=fun w' (h:Ev R ((w.alloc (.cells #[.slice a0 s.length c0,.int .i64 root,.int .i64 lone] 27)).alloc (.cells #[.slice none 0 0,.int .i64 0,.int .i64 0] 27)) R w')=>(he01.trans h).boxC3 (heap_alloc_new w _) hn1
 have hB2:=fun w' (h:Ev R ((w.alloc (.cells #[.slice a0 s.length c0,.int .i64 root,.int .i64 lone] 27)).alloc (.cells #[.slice none 0 0,.int .i64 0,.int .i64 0] 27)) R w')=>h.boxC3 (heap_alloc_new (w.alloc (.cells #[.slice a0 s.length c0,.int .i64 root,.int .i64 lone] 27)) (.cells #[.slice none 0 0,.int .i64 0,.int .i64 0] 27)) (he0.inv.none_of_ge (Nat.le_refl _))
 have hza:((w.alloc (.cells #[.slice a0 s.length c0,.int .i64 root,.int .i64 lone] 27)).alloc (.cells #[.slice none 0 0,.int .i64 0,.int .i64 0] 27)).heap.size=w.heap.size+2:=by simp
 rw[World.size_alloc] at hB2
 obtain⟨n,hnn⟩:∃ n,s.length=n:=⟨_,rfl⟩
 obtain⟨m,hm⟩:∃ m,d ^^^ 1=m:=⟨_,rfl⟩
 obtain⟨xss,hxs⟩:∃ x,listsL s s.length=x:=⟨_,rfl⟩
 have HXs:=Lib.hid hxs
 rw[hnn] at hxs
 rw[hm] at HMt hmm
 rw[HXs.out] at hsm hll
 rw[hnn,hxs] at HLs
 rw[hnn] at HPh HIv he0 he01 he1 hB1 hB2 hza hpl hivl hn hd hev hmm ⊢
 obtain⟨pf,hpf⟩:∃ p,phiL s=p:=⟨_,rfl⟩
 rw[hpf] at HPh HNm HOd hpl q1 q2 q3 hob ⊢
 obtain⟨O,hO⟩:∃ O,orbitL pf d=O:=⟨_,rfl⟩
 rw[hO] at HOd q1 q2 q3 hob ⊢
 obtain⟨k,hk⟩:∃ k,O.length=k:=⟨_,rfl⟩
 have HKl:=Lib.hid hk
 have hrw0:=star_rows hS q1 q2 q3
 have HPf:=Lib.hid hpf
 have HO:=Lib.hid q1
 have HOl:=Lib.hid q2
 rw[hk] at hob q3 hrw0
 rw[hnn] at hob hrw0 q2
 have HRw:=Lib.hid hrw0
 have HTl:=Lib.hid (show (starC s O).length=n+2*k by rw[starC_length,hnn,hk])
 clear hrw0 hpf hO hk q1 q2
 have HNn:=Lib.hid hnn
 have HMe:=Lib.hid hm
 have HS:=Lib.hid hS
 have HSm:=Lib.hid hsm
 have HLl:=Lib.hid hll
 have HHv:=Lib.hid hv
 clear hI hv hS hnn hm hsm hll hxs hp
 go_enter Try.func8,Try.ntmps8
 go_upto_region 1 with fail
 obtain⟨wa,hwa⟩:∃ wa,(w.alloc (.cells #[.slice a0 n c0,.int .i64 root,.int .i64 lone] 27)).alloc (.cells #[.slice none 0 0,.int .i64 0,.int .i64 0] 27)=wa:=⟨_,rfl⟩
 try rw[hwa] at he1 hB1 hB2 hza ⊢
 have HB1:=Lib.hid (fun w' (h:Ev R wa R w')=>boxC_cells (hB1 w' h).1)
 have HB2:=Lib.hid hB2
 have HZa:=Lib.hid hza
 have HEa:=Lib.hid he1
 obtain⟨x0,x1,x2,_⟩:=HB1.out _ (Ev.refl he1.inv)
 have hdr:decide ((d:Int)<0)=false:=by simp
 have hdr2:decide ((n:Int)≤(d:Int))=false:=by simp;omega
 clear he0 he01 he1 hB1 hB2 hza hwa hn1
 go_wp2_with fail
 refine (HPh.out _ HEa.out).mono ?_
 rintro z w2 ⟨v2,rfl,he2,ho2⟩
 obtain⟨a2,c2,rfl,_⟩:=ho2.ints.open
 rw[toI_length,hpl] at ho2 ⊢
 have HE2:=Lib.hid he2
 have HO2:=Lib.hid ho2
 clear he2 ho2 x0 x1 x2
 go_wp2_with fail
 refine (HNm.out _ _ HE2.out.inv HO2.out.free).mono ?_
 rintro z w3 ⟨v3,rfl,he3,ho3⟩
 obtain⟨a3,c3,rfl,_⟩:=ho3.ints.open
 rw[namesL_length,hpl] at ho3 ⊢
 have HE3:=Lib.hid (HE2.out.trans he3)
 have HO3:=Lib.hid ho3
 have HO2:=Lib.hid (HO2.out.ev he3)
 obtain⟨x0,x1,x2,_⟩:=HB1.out w3 HE3.out
 clear he3 ho3
 go_wp2_with fail
 refine (HIv.out _ (HEa.out.trans HE3.out)).mono ?_
 rintro z w4 ⟨v4,rfl,he4,ho4⟩
 obtain⟨a4,c4,rfl,_⟩:=ho4.ints.open
 rw[toI_length,hivl] at ho4 ⊢
 have HE4:=Lib.hid (HE3.out.trans he4)
 have HO4:=Lib.hid ho4
 have HO2:=Lib.hid (HO2.out.ev he4)
 have HO3:=Lib.hid (HO3.out.ev he4)
 clear he4 ho4 x0 x1 x2
 go_wp2_with fail
 refine (HMt.out _).mono ?_
 rintro z w4' ⟨rfl,rfl⟩
 obtain⟨x0,x1,x2,_⟩:=HB1.out w4 HE4.out
 go_wp2_with fail
 refine (HLs.out _ (HEa.out.trans HE4.out)).mono ?_
 rintro z w5 ⟨a5,c5,vs5,rfl,he5,hov5,hrw5⟩
 have hR5:RowsAt R w4.heap.size w5 (.slice a5 xss.length c5) xss:=⟨a5,c5,vs5,rfl,hov5,hrw5⟩
 have HE5:=Lib.hid (HE4.out.trans he5)
 have HR5:=Lib.hid hR5
 have HO2:=Lib.hid (HO2.out.ev he5)
 have HO3:=Lib.hid (HO3.out.ev he5)
 have HO4:=Lib.hid (HO4.out.ev he5)
 obtain⟨l5,hl5⟩:∃ l,xss.length=l:=⟨_,rfl⟩
 try rw[hl5]
 rw[hl5] at HR5
 have HL5:=Lib.hid hl5
 have HLb:=Lib.hid (show l5≤99000 by rw[←hl5];exact HLl.out)
 have HSz45:=Lib.hid he5.size
 clear he5 hov5 hrw5 hR5 hl5 x0 x1 x2
 go_wp2_with fail
 refine (HOd.out _ _ HE5.out.inv HO2.out.free).mono ?_
 rintro z w6 ⟨v6,rfl,he6,ho6⟩
 obtain⟨a6,c6,rfl,_⟩:=ho6.ints.open
 rw[toI_length,HKl.out] at ho6 ⊢
 have HE6:=Lib.hid (HE5.out.trans he6)
 have HO6:=Lib.hid ho6
 have HO4:=Lib.hid (HO4.out.ev he6)
 have HR6:=Lib.hid (HR5.out.ev he6)
 have HSz46:=Lib.hid (show w4.heap.size≤w6.heap.size from Nat.le_trans HSz45.out he6.size)
 clear he6 ho6
 obtain⟨g6,rfl,_⟩:=HO6.out.headAt (by rw[toI_length];exact HKl.out) q3
 obtain⟨g4,rfl,_⟩:=HO4.out.headAt (by rw[toI_length];exact hivl) hd
 have HSs:=Lib.hid (fun i (hi:i≤k)=>(by
  refine (starLs_rows HS.out HO.out HOl.out i (by rw[HKl.out];exact hi)).sm (N:=n+2*k) (fun y hy=>?_) (by omega) ?_
  ·have:=HNn.out
   rcases hy with h|⟨j,h1,h2⟩ <;> omega
  ·rw[starLs_len,HXs.out]
   have:=HLl.out
   omega:RowsSm (starLs s O i)))
 have HS0:=Lib.hid (show starLs s O 0=xss from HXs.out)
 have HSl:=Lib.hid (fun i=>(by rw[starLs_len,HXs.out];exact HL5.out:(starLs s O i).length=l5))
 go_wp2_with fail
 go_loopg [10,15,16,121] k (fun g v10 v15 v16 v121 wr=>∃ (i q:Nat) (a16:Option Addr) (c16:Nat),i≤k∧k-i≤g∧v121=.int .i64 (i:Int)∧v10=.int .i64 (q:Int)∧q=n+2*i∧v16=.slice a16 i c16∧(i=0→a16=none)∧Ev R w6 R wr∧RowsAt R w4.heap.size wr v15 (starLs s O i)∧RowOk R wr (fun b=>v15.ownBlock=some b) (.slice a16 i c16) (hubL n i))
 case atStart=>exact⟨0,n,none,0,Nat.zero_le _,by omega,rfl,rfl,by omega,rfl,fun _=>rfl,Ev.refl HE6.out.inv,by rw[HS0.out];exact HR6.out,RowOk.nil _ _ _⟩
 case round=>
  obtain⟨i,q,a16,c16,hik,hg,rfl,rfl,hq,rfl,ha0,hev,hra,hro⟩:=hrel
  have HE:=Lib.hid hev
  have HQ:=Lib.hid hq
  have HA0:=Lib.hid ha0
  have HRo:=Lib.hid hro
  obtain⟨a15,c15,vs15,rfl,hov15,hrw15⟩:=hra
  rw[HSl.out] at hov15 hrw15 HRo ⊢
  have hr15:RowsAt R w4.heap.size wr (.slice a15 l5 c15) (starLs s O i):=⟨a15,c15,vs15,by rw[HSl.out],by rw[HSl.out];exact hov15,by rw[HSl.out];exact hrw15⟩
  have HR15:=Lib.hid hr15
  have HV15:=Lib.hid hov15
  have HW15:=Lib.hid hrw15
  have hqb:q≤99000:=by omega
  clear hev hq ha0 hro hov15 hrw15 hr15
  by_cases hi:i<k
  ·have hir:(i:Int)<(k:Int):=by omega
   obtain⟨g6',e6,_,_,hc6,_⟩:=(HO6.out.ev HE.out).headAt (by rw[toI_length];exact HKl.out) hi
   cases e6
   rw[toI_nth] at hc6
   obtain⟨y,hy⟩:∃ y,at' O i=y:=⟨_,rfl⟩
   have hyl:y<n:=by rw[←hy,←HNn.out];exact HOl.out _ (by rw[at'_eq (by rw[HKl.out];exact hi)];exact List.getElem_mem _)
   rw[hy] at hc6
   obtain⟨g4',e4,_,_,hc4,_⟩:=(HO4.out.ev HE.out).headAt (by rw[toI_length];exact hivl) hyl
   cases e4
   rw[toI_nth] at hc4
   obtain⟨t,ht⟩:∃ t,at' (invL s) y=t:=⟨_,rfl⟩
   rw[ht] at hc4
   have htl:t≤1000000:=by
    have:=(at_invL HS.out (y:=y) (by rw[HNn.out];exact hyl)).2
    rw[ht,HNn.out] at this
    omega
   have HSt:=Lib.hid (show starLs s O (i+1)=outL (aftF t q) (starLs s O i) by
    have e:starLs s O (i+1)=outL (aftF (at' (invL s) (at' O i)) (s.length+2*i)) (starLs s O i):=rfl
    rw[e,hy,ht,HNn.out,←HQ.out])
   have HHb:=Lib.hid (show hubL n (i+1)=(q+1) :: hubL n i by
    have e:hubL n (i+1)=(n+2*i+1) :: hubL n i:=rfl
    rw[e,HQ.out])
   have hyr:(y:Int)<(n:Int):=by omega
   clear hy ht
   go_wp2_with fail
   refine (after_any R _ HE.out.inv _ _ _ HR15.out (HSs.out i hik) t q htl (by omega)).mono ?_
   rintro z w7 ⟨a7,c7,vs7,rfl,he7,hov7,hrw7⟩
   have hL7:(outL (aftF t q) (starLs s O i)).length=l5:=by rw[outL_length];exact HSl.out i
   rw[hL7] at hov7 hrw7 ⊢
   have HE7:=Lib.hid (HE.out.trans he7)
   have HS7:=Lib.hid he7.size
   have HV7:=Lib.hid hov7
   have HW7:=Lib.hid hrw7
   have HRo7:=Lib.hid (HRo.out.ev he7)
   clear he7 hov7 hrw7 hc6 hc4
   have hE8:Ev R w7 R (w7.alloc (.cells #[.int .i64 ((q:Int)+1)] 3)):=(Ev.refl HE7.out.inv).alloc _
   have hO8:=OwnI.lit1 (B:=w7.heap.size) HE7.out.inv (Nat.le_refl _) ((q:Int)+1)
   have HE8:=Lib.hid hE8
   have HO8:=Lib.hid hO8
   clear hE8 hO8
   by_cases hi0:i=0
   ·have h16:=HA0.out hi0
    subst hi0
    subst h16
    go_wp2_with (at_builtin;refine wpList_app_none rfl _ _ rfl (a1:=some ⟨w7.heap.size,0,none⟩) (n:=1) (c:=1) (a2:=none) (c2:=c16) ?y0 ?y1 ?y2 ?_)
    try (case y0=>first|rfl|simp)
    try (case y1=>first|rfl|simp)
    try (case y2=>first|rfl|simp)
    have hra9:RowsAt R w4.heap.size (w7.alloc (.cells #[.int .i64 ((q:Int)+1)] 3)) (.slice a7 l5 c7) (starLs s O 1):=by
     rw[HSt.out]
     have h:RowsAt R wr.heap.size w7 (.slice a7 l5 c7) (outL (aftF t q) (starLs s O 0)):=⟨a7,c7,vs7,by rw[outL_length,HSl.out],by rw[outL_length,HSl.out];exact HV7.out,by rw[outL_length,HSl.out];exact HW7.out⟩
     exact (h.ev HE8.out).mono (by have:=HE.out.size;have:=HE6.out.size;have:=HSz46.out;omega)
    have hro9:RowOk R (w7.alloc (.cells #[.int .i64 ((q:Int)+1)] 3)) (fun b=>(Value.slice a7 l5 c7).ownBlock=some b) (.slice (some ⟨w7.heap.size,0,none⟩) 1 1) (hubL n 1):=by
     rw[HHb.out]
     exact rowOk_lit1 (x:=q+1) HE7.out.inv (by omega) HV7.out
    have HRA9:=Lib.hid hra9
    have HRO9:=Lib.hid hro9
    clear hra9 hro9
    go_wp2_with fail
    go_roundg (k-1)
    case measure=>omega
    case rel=>exact⟨1,q+2,_,1,by omega,by omega,by go_num,by go_num,by have:=HQ.out;omega,rfl,fun h=>by omega,HE7.out.trans HE8.out,HRA9.out,HRO9.out⟩
   ·obtain⟨a16',c16',e16,hf16,hb16⟩:=HRo7.out
    rw[hubL_length] at e16 hf16
    cases e16
    obtain⟨bh,oh,rfl,_⟩:=hf16.at (i:=0) (by rw[hubL_length];omega)
    have HF16:=Lib.hid (hf16.ev HE8.out)
    have hcells:∀ j,j<i→(w7.alloc (.cells #[.int .i64 ((q:Int)+1)] 3)).cell? ((⟨bh,oh,none⟩:Addr).add j)=some (.int .i64 (nth (toI (hubL n i)) j)):=fun j hj=>by
     obtain⟨b',o',e',h'⟩:=HF16.out.at (i:=j) (by rw[hubL_length];exact hj)
     simp only[Option.some.injEq,Addr.mk.injEq,and_true] at e'
     obtain⟨rfl,rfl⟩:=e'
     rw[toI_nth]
     by_cases hj0:j=0
     ·subst hj0;simpa [Addr.add] using h'
     ·simpa [Addr.add,hj0] using h'
    have hlen9:[(q:Int)+1].length+i≤8388608:=by simp;omega
    clear hf16 hb16
    go_wp2_with (at_builtin;refine wpList_app_ints (R:=R) (B:=w7.heap.size) rfl _ _ rfl HO8.out rfl ⟨bh,oh,none⟩ i c16 (toI (hubL n i)) ?y0 ?y1 ?y2 ?y3 ?y4 ?y5 ?_)
    case y0=>rw[toI_length,hubL_length]
    try (case y1=>first|rfl|simp)
    case y2=>exact hcells
    case y3=>exact hlen9
    case y4=>exact HE8.out.size
    case y5=>exact fun q' hq'=>HE8.out.inv.none_of_ge hq'
    intro v9 w9 ho9 hg9 hs9
    have hE9:=HE8.out.app HO8.out (Nat.le_refl _) hg9
    have e9:((q:Int)+1) :: toI (hubL n i)=toI (hubL n (i+1)):=by rw[HHb.out];simp[toI]
    try simp only[List.cons_append,List.nil_append] at ho9
    rw[e9] at ho9
    obtain⟨a9,c9,rfl,_⟩:=ho9.ints.open
    rw[toI_length,hubL_length] at ho9 ⊢
    have hra9:RowsAt R w4.heap.size w9 (.slice a7 l5 c7) (starLs s O (i+1)):=by
     rw[HSt.out]
     have h:RowsAt R wr.heap.size w7 (.slice a7 l5 c7) (outL (aftF t q) (starLs s O i)):=⟨a7,c7,vs7,by rw[outL_length,HSl.out],by rw[outL_length,HSl.out];exact HV7.out,by rw[outL_length,HSl.out];exact HW7.out⟩
     exact (h.ev hE9).mono (by have:=HE.out.size;have:=HE6.out.size;have:=HSz46.out;omega)
    have hro9:RowOk R w9 (fun b=>(Value.slice a7 l5 c7).ownBlock=some b) (.slice a9 (i+1) c9) (hubL n (i+1)):=rowOk_new ho9 (hubL_length n (i+1)) HV7.out
    have HRA9:=Lib.hid hra9
    have HRO9:=Lib.hid hro9
    have HE9:=Lib.hid (HE7.out.trans hE9)
    clear hra9 hro9 hE9 ho9 hg9 hs9 e9
    go_wp2_with fail
    go_roundg (k-(i+1))
    case measure=>omega
    case rel=>exact⟨i+1,q+2,a9,c9,by omega,by omega,by go_num,by go_num,by have:=HQ.out;omega,rfl,fun h=>by omega,HE9.out,HRA9.out,HRO9.out⟩
  ·obtain rfl:i=k:=by omega
   have HE8:=Lib.hid ((Ev.refl HE.out.inv).alloc (.cells #[.slice a16 i c16] 25))
   have HV8:=Lib.hid (HV15.out.ev HE8.out)
   have HW8:=Lib.hid (HW15.out.ev HE8.out)
   have HRo8:=Lib.hid (HRo.out.ev HE8.out)
   have HEx:=Lib.hid (HE6.out.trans (HE.out.trans HE8.out))
   have HSx:=Lib.hid HSz46.out
   go_wp2_with (at_builtin;refine wpList_app_row 59 25 1 24 nilS Try.underlying59 islice_info rfl (by decide) (by decide) rfl _ _ rfl HV8.out rfl ⟨wr.heap.size,0,none⟩ 1 1 [.slice a16 i c16] rfl ?z0 ?z1 ?z2 ?z3 ?z4 ?z5 ?_)
   try (case z0=>first|rfl|simp)
   case z1=>exact one_cell _ _
   case z2=>exact one_one _ _ _
   case z3=>have:=HLb.out;omega
   case z4=>have:=HSx.out;have:=HE8.out.size;have:=HE.out.size;omega
   case z5=>exact fun q hq=>HE8.out.inv.none_of_ge hq
   intro v8' w8 ho8 hg8 hs8
   have hra8:=rows_next (xss:=starLs s O i) (HSl.out i).symm HW8.out HRo8.out ho8 hg8 (fun q hq=>(hs8 q hq).imp id (fun h=>by first|exact h|simpa using h))
   have HEE8:=Lib.hid (HEx.out.appV HV8.out HE4.out.size hg8)
   have HRA8:=Lib.hid hra8
   clear hra8 ho8 hg8 hs8
   obtain⟨x0,x1,x2,_⟩:=HB1.out w8 HEE8.out
   go_wp2_with fail
   refine (r23made_any R _ HEE8.out.inv _ _ _ HRA8.out (HRw.out.sm (by have:=HTl.out;omega) (by have:=HLb.out;have:=HL5.out;have:=HSl.out i;simp;omega)) _ HRw.out.lens HRw.out.below (by have:=HTl.out;omega) root lone).mono ?_
   rintro z w8e ⟨af,cf,rfl,hef,hof⟩
   rw[HRw.out.lay] at hof ⊢
   have HEf:=Lib.hid (HEE8.out.trans hef)
   have HOf:=Lib.hid hof
   have HSf:=Lib.hid HEE8.out.size
   clear hef hof x0 x1 x2
   obtain⟨y0,y1,y2,yz⟩:=boxC_cells (HB2.out _ HEf.out).1
   obtain⟨lf,hlf⟩:∃ l,(starC s O).length=l:=⟨_,rfl⟩
   rw[hlf] at HOf
   try rw[hlf]
   have HLF:=Lib.hid hlf
   clear hlf
   simp only[refV]
   go_wp2_with fail
   have hb3:=set3 (x:=.slice af lf cf) (y:=.int .i64 root) (z:=.int .i64 lone) (HB2.out _ HEf.out).1
   obtain⟨u0,u1,u2,_⟩:=boxC_cells hb3
   have hn2:=(HB2.out _ HEf.out).2
   have hne:∀ (o:Nat),(Value.slice af lf cf).ownBlock≠some (⟨w.heap.size+1,o,none⟩:Addr).block:=fun o e'=>by
    have h1:=(HOf.out.lt _ e').1
    have h2:=HZa.out
    have h4:=HSf.out
    have h3:(⟨w.heap.size+1,o,none⟩:Addr).block=w.heap.size+1:=rfl
    omega
   try simp only[Exit.inBlock,Exit.then]
   refine bodyPost_ret (v:=.tuple #[refV (.slice af lf cf) root lone,.int .i64 0]) ?_ rfl (⟨af,cf,by rw[HLF.out],?_,?_⟩)
   ·simp[results,Try.results8,go_sem,u0,u1,u2,refV]
   ·exact (((HEa.out.trans HEf.out).setCell (by simp) hn2 _).setCell (by simp) hn2 _).setCell (by simp) hn2 _
   ·rw[HLF.out]
    exact (((HOf.out.mono (by have:=HSf.out;have:=HZa.out;omega)).setCell (hne 0) _).setCell (hne 1) _).setCell (hne 2) _
end
section
open Go.RowKit
set_option linter.unusedVariables false
set_option linter.unusedSimpArgs false
set_option maxRecDepth 100000 in
set_option maxHeartbeats 2000000 in
theorem do_out (R:Reg) (w:World) (hI:Inv R w) (v:Value) (s:List Nat) (root lone:Int) (hv:FreeI R w v (toI s)) (hn:s.length≤1000000) (k:Nat) (d e:Int) (h:wayR s.length k d e=false):
  Calls Try.prog 8 #[refV v root lone,.int .i64 (k:Int),.int .i64 d,.int .i64 e] w (fun z w2=>z=.returned (.tuple #[refV v root lone,.int .i64 1])∧Ev R w R w2):=by
 obtain⟨a0,c0,rfl,_⟩:=hv.open
 rw[toI_length] at hv ⊢
 unfold refV
 have he0:Ev R w R (w.alloc (.cells #[.slice a0 s.length c0,.int .i64 root,.int .i64 lone] 27)):=(Ev.refl hI).alloc _
 have he01:Ev R (w.alloc (.cells #[.slice a0 s.length c0,.int .i64 root,.int .i64 lone] 27)) R ((w.alloc (.cells #[.slice a0 s.length c0,.int .i64 root,.int .i64 lone] 27)).alloc (.cells #[.slice none 0 0,.int .i64 0,.int .i64 0] 27)):=(Ev.refl he0.inv).alloc _
 have he1:Ev R w R ((w.alloc (.cells #[.slice a0 s.length c0,.int .i64 root,.int .i64 lone] 27)).alloc (.cells #[.slice none 0 0,.int .i64 0,.int .i64 0] 27)):=he0.trans he01
 have hn1:R w.heap.size=none:=hI.none_of_ge (Nat.le_refl _)
 have hB1:=fun w' (h:Ev R ((w.alloc (.cells #[.slice a0 s.length c0,.int .i64 root,.int .i64 lone] 27)).alloc (.cells #[.slice none 0 0,.int .i64 0,.int .i64 0] 27)) R w')=>(he01.trans h).boxC3 (heap_alloc_new w _) hn1
 have hB2:=fun w' (h:Ev R ((w.alloc (.cells #[.slice a0 s.length c0,.int .i64 root,.int .i64 lone] 27)).alloc (.cells #[.slice none 0 0,.int .i64 0,.int .i64 0] 27)) R w')=>h.boxC3 (heap_alloc_new (w.alloc (.cells #[.slice a0 s.length c0,.int .i64 root,.int .i64 lone] 27)) (.cells #[.slice none 0 0,.int .i64 0,.int .i64 0] 27)) (he0.inv.none_of_ge (Nat.le_refl _))
 rw[World.size_alloc] at hB2
 have hcase:d<0∨(0≤d∧(s.length:Int)≤d)∨(0≤d∧d<s.length∧k=1∧e<0)∨(0≤d∧d<s.length∧k=1∧0≤e∧(s.length:Int)≤e):=by
  have hi:∀ x:Int,inR s.length x=false→x<0∨(s.length:Int)≤x:=fun x hx=>by
   unfold inR at hx
   have:=of_decide_eq_false hx
   omega
  by_cases h1:inR s.length d=false
  ·have:=hi d h1;omega
  ·have h2:inR s.length d=true:=by simpa using h1
   have h2':0≤d∧d<s.length:=of_decide_eq_true h2
   have hk:k=1:=by
    apply Classical.byContradiction
    intro hk
    have h3:wayR s.length k d e=inR s.length d:=by
     unfold wayR
     split
     ·exact absurd rfl hk
     ·rfl
    rw[h3,h2] at h
    cases h
   subst hk
   have h4:(inR s.length d && inR s.length e)=false:=h
   rw[h2,Bool.true_and] at h4
   have:=hi e h4
   omega
 obtain⟨n,hnn⟩:∃ n,s.length=n:=⟨_,rfl⟩
 rw[hnn] at he0 he01 he1 hB1 hB2 hn hcase ⊢
 clear hv h hnn
 go_enter Try.func8,Try.ntmps8
 go_upto_region 1 with fail
 obtain⟨wa,hwa⟩:∃ wa,(w.alloc (.cells #[.slice a0 n c0,.int .i64 root,.int .i64 lone] 27)).alloc (.cells #[.slice none 0 0,.int .i64 0,.int .i64 0] 27)=wa:=⟨_,rfl⟩
 try rw[hwa] at he1 hB1 hB2 ⊢
 have HB2:=Lib.hid hB2
 have HEa:=Lib.hid he1
 obtain⟨x0,x1,x2,_⟩:=boxC_cells (hB1 wa (Ev.refl he1.inv)).1
 obtain⟨y0,y1,y2,yz⟩:=boxC_cells (hB2 wa (Ev.refl he1.inv)).1
 have HW:=Lib.hid (Ev.refl he1.inv)
 clear he0 he01 he1 hB1 hB2 hwa hn1 hI
 rcases hcase with h1|⟨h1,h2⟩|⟨h1,h2,rfl,h3⟩|⟨h1,h2,rfl,h3,h4⟩
 ·have b1:decide (d<0)=true:=decide_eq_true h1
  go_wp2_with fail
  have hb3:=set3 (x:=.slice a0 n c0) (y:=.int .i64 root) (z:=.int .i64 lone) (HB2.out _ HW.out).1
  obtain⟨u0,u1,u2,_⟩:=boxC_cells hb3
  have hn2:=(HB2.out _ HW.out).2
  refine bodyPost_ret (v:=.tuple #[refV (.slice a0 n c0) root lone,.int .i64 1]) ?_ rfl ⟨rfl,?_⟩
  ·simp[results,Try.results8,go_sem,u0,u1,u2,refV]
  ·exact ((HEa.out.setCell (by simp) hn2 _).setCell (by simp) hn2 _).setCell (by simp) hn2 _
 ·have b1:decide (d<0)=false:=decide_eq_false (by omega)
  have b2:decide ((n:Int)≤d)=true:=decide_eq_true h2
  go_wp2_with fail
  have hb3:=set3 (x:=.slice a0 n c0) (y:=.int .i64 root) (z:=.int .i64 lone) (HB2.out _ HW.out).1
  obtain⟨u0,u1,u2,_⟩:=boxC_cells hb3
  have hn2:=(HB2.out _ HW.out).2
  refine bodyPost_ret (v:=.tuple #[refV (.slice a0 n c0) root lone,.int .i64 1]) ?_ rfl ⟨rfl,?_⟩
  ·simp[results,Try.results8,go_sem,u0,u1,u2,refV]
  ·exact ((HEa.out.setCell (by simp) hn2 _).setCell (by simp) hn2 _).setCell (by simp) hn2 _
 ·have b1:decide (d<0)=false:=decide_eq_false (by omega)
  have b2:decide ((n:Int)≤d)=false:=decide_eq_false (by omega)
  have b3:decide (e<0)=true:=decide_eq_true h3
  go_wp2_with fail
  have hb3:=set3 (x:=.slice a0 n c0) (y:=.int .i64 root) (z:=.int .i64 lone) (HB2.out _ HW.out).1
  obtain⟨u0,u1,u2,_⟩:=boxC_cells hb3
  have hn2:=(HB2.out _ HW.out).2
  refine bodyPost_ret (v:=.tuple #[refV (.slice a0 n c0) root lone,.int .i64 1]) ?_ rfl ⟨rfl,?_⟩
  ·simp[results,Try.results8,go_sem,u0,u1,u2,refV]
  ·exact ((HEa.out.setCell (by simp) hn2 _).setCell (by simp) hn2 _).setCell (by simp) hn2 _
 ·have b1:decide (d<0)=false:=decide_eq_false (by omega)
  have b2:decide ((n:Int)≤d)=false:=decide_eq_false (by omega)
  have b3:decide (e<0)=false:=decide_eq_false (by omega)
  have b4:decide ((n:Int)≤e)=true:=decide_eq_true h4
  go_wp2_with fail
  have hb3:=set3 (x:=.slice a0 n c0) (y:=.int .i64 root) (z:=.int .i64 lone) (HB2.out _ HW.out).1
  obtain⟨u0,u1,u2,_⟩:=boxC_cells hb3
  have hn2:=(HB2.out _ HW.out).2
  refine bodyPost_ret (v:=.tuple #[refV (.slice a0 n c0) root lone,.int .i64 1]) ?_ rfl ⟨rfl,?_⟩
  ·simp[results,Try.results8,go_sem,u0,u1,u2,refV]
  ·exact ((HEa.out.setCell (by simp) hn2 _).setCell (by simp) hn2 _).setCell (by simp) hn2 _
end
end Go.Proofs.Ytklkgicjfnbndaa
