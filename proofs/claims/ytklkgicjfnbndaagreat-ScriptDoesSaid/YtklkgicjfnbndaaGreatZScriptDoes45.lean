/- parquetryref23.Do: a leaf. -/
import Derived.Test.YtklkgicjfnbndaaGreatZScriptDoes44
namespace Go.Proofs.YtklkgicjfnbndaaGreat
section
open Go.RowKit
set_option linter.unusedVariables false
set_option maxRecDepth 100000 in
set_option maxHeartbeats 2000000 in
theorem do_leaf (R:Reg) (w:World) (hI:Inv R w) (v:Value) (s:List Nat) (root lone:Int) (hv:FreeI R w v (toI s)) (hS:IsPerm s) (hn:s.length≤99000) (hev:s.length % 2=0) (d:Nat) (hd:d<s.length) (e:Int):
  Calls Tryz.prog 75 #[refV v root lone,.int .i64 0,.int .i64 (d:Int),.int .i64 e] w (RetDo R w (leafL s d) root lone):=by
 obtain⟨a0,c0,rfl,_⟩:=hv.open
 rw[toI_length] at hv ⊢
 unfold refV
 have hp:=phiL_perm hS hev
 have hpl:=phiL_length s
 have hdm:=xor_one_lt hev hd
 have hmm:d ^^^ 1<s.length:=hdm
 have HPh:=Lib.hid (fun w' (he:Ev R w R w')=>rphi_any R w' he.inv _ s root lone (hv.ev he) (by omega) hev)
 have HNm:=Lib.hid (fun w' v' (hI':Inv R w') (h:FreeI R w' v' (toI (phiL s)))=>rnames_any R w' hI' v' (phiL s) h hp (by omega))
 have HIv:=Lib.hid (fun w' (he:Ev R w R w')=>rinverse_any R w' he.inv _ s (hv.ev he) hS (by omega))
 have HMt:=Lib.hid (fun w'=>rmate_any w' d (by omega))
 have HLs:=Lib.hid (fun w' (he:Ev R w R w')=>r23lists_any R w' he.inv _ s root lone (hv.ev he) hS (by omega))
 have hsm:=lists_sm hS (by omega)
 have hll:=Nat.le_trans (listsL_len s s.length) (Nat.le_trans hn (by decide:99000≤99000))
 have hivl:=invL_length s
 have he0:Ev R w R (w.alloc (.cells #[.slice a0 s.length c0,.int .i64 root,.int .i64 lone] 27)):=(Ev.refl hI).alloc _
 have he01:Ev R (w.alloc (.cells #[.slice a0 s.length c0,.int .i64 root,.int .i64 lone] 27)) R ((w.alloc (.cells #[.slice a0 s.length c0,.int .i64 root,.int .i64 lone] 27)).alloc (.cells #[.slice none 0 0,.int .i64 0,.int .i64 0] 27)):=(Ev.refl he0.inv).alloc _
 have he1:Ev R w R ((w.alloc (.cells #[.slice a0 s.length c0,.int .i64 root,.int .i64 lone] 27)).alloc (.cells #[.slice none 0 0,.int .i64 0,.int .i64 0] 27)):=he0.trans he01
 have hn1:R w.heap.size=none:=hI.none_of_ge (Nat.le_refl _)
 have hB1:=fun w' (h:Ev R ((w.alloc (.cells #[.slice a0 s.length c0,.int .i64 root,.int .i64 lone] 27)).alloc (.cells #[.slice none 0 0,.int .i64 0,.int .i64 0] 27)) R w')=>(he01.trans h).boxC3 (heap_alloc_new w _) hn1
 have hB2:=fun w' (h:Ev R ((w.alloc (.cells #[.slice a0 s.length c0,.int .i64 root,.int .i64 lone] 27)).alloc (.cells #[.slice none 0 0,.int .i64 0,.int .i64 0] 27)) R w')=>h.boxC3 (heap_alloc_new (w.alloc (.cells #[.slice a0 s.length c0,.int .i64 root,.int .i64 lone] 27)) (.cells #[.slice none 0 0,.int .i64 0,.int .i64 0] 27)) (he0.inv.none_of_ge (Nat.le_refl _))
 have hza:((w.alloc (.cells #[.slice a0 s.length c0,.int .i64 root,.int .i64 lone] 27)).alloc (.cells #[.slice none 0 0,.int .i64 0,.int .i64 0] 27)).heap.size=w.heap.size+2:=by simp
 rw[World.size_alloc] at hB2
 obtain⟨n,hnn⟩:∃ n,s.length=n:=⟨_,rfl⟩
 obtain⟨m,hm⟩:∃ m,d ^^^ 1=m:=⟨_,rfl⟩
 obtain⟨xss,hxs⟩:∃ x,listsL s s.length=x:=⟨_,rfl⟩
 have HXs:=Lib.hid hxs
 rw[hnn] at hxs
 rw[hm] at HMt hmm
 rw[HXs.out] at hsm hll
 rw[hnn,hxs] at HLs
 rw[hnn] at HPh HIv he0 he01 he1 hB1 hB2 hza hpl hivl hn hd hev hmm ⊢
 have hrw0:=leaf_rows hS (d:=d) (by omega)
 rw[hnn,hxs] at hrw0
 have HRw:=Lib.hid hrw0
 have HTl:=Lib.hid (show (leafL s d).length=n+2 by rw[leafL_length,hnn])
 clear hrw0
 have HNn:=Lib.hid hnn
 have HMe:=Lib.hid hm
 have HS:=Lib.hid hS
 have HSm:=Lib.hid hsm
 have HLl:=Lib.hid hll
 have HHv:=Lib.hid hv
 clear hI hv hS hnn hm hsm hll hxs hp
 go_enter Tryz.func75,Tryz.ntmps75
 go_upto_region 1 with fail
 obtain⟨wa,hwa⟩:∃ wa,(w.alloc (.cells #[.slice a0 n c0,.int .i64 root,.int .i64 lone] 27)).alloc (.cells #[.slice none 0 0,.int .i64 0,.int .i64 0] 27)=wa:=⟨_,rfl⟩
 try rw[hwa] at he1 hB1 hB2 hza ⊢
 have HB1:=Lib.hid (fun w' (h:Ev R wa R w')=>boxC_cells (hB1 w' h).1)
 have HB2:=Lib.hid hB2
 have HZa:=Lib.hid hza
 have HEa:=Lib.hid he1
 obtain⟨x0,x1,x2,_⟩:=HB1.out _ (Ev.refl he1.inv)
 have hdr:decide ((d:Int)<0)=false:=by simp
 have hdr2:decide ((n:Int)≤(d:Int))=false:=by simp;omega
 clear he0 he01 he1 hB1 hB2 hza hwa hn1
 go_wp2_with fail
 refine (HPh.out _ HEa.out).mono ?_
 rintro z w2 ⟨v2,rfl,he2,ho2⟩
 obtain⟨a2,c2,rfl,_⟩:=ho2.ints.open
 rw[toI_length,hpl] at ho2 ⊢
 have HE2:=Lib.hid he2
 have HO2:=Lib.hid ho2
 clear he2 ho2 x0 x1 x2
 go_wp2_with fail
 refine (HNm.out _ _ HE2.out.inv HO2.out.free).mono ?_
 rintro z w3 ⟨v3,rfl,he3,ho3⟩
 obtain⟨a3,c3,rfl,_⟩:=ho3.ints.open
 rw[namesL_length,hpl] at ho3 ⊢
 have HE3:=Lib.hid (HE2.out.trans he3)
 have HO3:=Lib.hid ho3
 have HO2:=Lib.hid (HO2.out.ev he3)
 obtain⟨x0,x1,x2,_⟩:=HB1.out w3 HE3.out
 clear he3 ho3
 go_wp2_with fail
 refine (HIv.out _ (HEa.out.trans HE3.out)).mono ?_
 rintro z w4 ⟨v4,rfl,he4,ho4⟩
 obtain⟨a4,c4,rfl,_⟩:=ho4.ints.open
 rw[toI_length,hivl] at ho4 ⊢
 have HE4:=Lib.hid (HE3.out.trans he4)
 have HO4:=Lib.hid ho4
 have HO2:=Lib.hid (HO2.out.ev he4)
 have HO3:=Lib.hid (HO3.out.ev he4)
 clear he4 ho4 x0 x1 x2
 go_wp2_with fail
 refine (HMt.out _).mono ?_
 rintro z w4' ⟨rfl,rfl⟩
 obtain⟨x0,x1,x2,_⟩:=HB1.out w4 HE4.out
 go_wp2_with fail
 refine (HLs.out _ (HEa.out.trans HE4.out)).mono ?_
 rintro z w5 ⟨a5,c5,vs5,rfl,he5,hov5,hrw5⟩
 have hR5:RowsAt R w4.heap.size w5 (.slice a5 xss.length c5) xss:=⟨a5,c5,vs5,rfl,hov5,hrw5⟩
 have HE5:=Lib.hid (HE4.out.trans he5)
 have HR5:=Lib.hid hR5
 have HO2:=Lib.hid (HO2.out.ev he5)
 have HO3:=Lib.hid (HO3.out.ev he5)
 have HO4:=Lib.hid (HO4.out.ev he5)
 obtain⟨l5,hl5⟩:∃ l,xss.length=l:=⟨_,rfl⟩
 try rw[hl5]
 rw[hl5] at HR5
 have HL5:=Lib.hid hl5
 have HLb:=Lib.hid (show l5≤99000 by rw[←hl5];exact HLl.out)
 clear he5 hov5 hrw5 hR5 hl5 x0 x1 x2
 go_wp2_with fail
 refine (after_any R _ HE5.out.inv _ _ xss HR5.out HSm.out d n (by omega) (by omega)).mono ?_
 rintro z w6 ⟨a6,c6,vs6,rfl,he6,hov6,hrw6⟩
 have hL6:(outL (aftF d n) xss).length=l5:=(outL_length _ _).trans HL5.out
 rw[hL6] at hov6 hrw6 ⊢
 have HE6:=Lib.hid (HE5.out.trans he6)
 have HV6:=Lib.hid hov6
 have HW6:=Lib.hid hrw6
 have HL6:=Lib.hid hL6
 have HSz6:=Lib.hid he6.size
 clear he6 hov6 hrw6 hL6
 have hE8:Ev R w6 R (w6.alloc (.cells #[.int .i64 ((n:Int)+1)] 3)):=(Ev.refl HE6.out.inv).alloc _
 have hF8:Ev R (w6.alloc (.cells #[.int .i64 ((n:Int)+1)] 3)) R ((w6.alloc (.cells #[.int .i64 ((n:Int)+1)] 3)).alloc (.cells #[.slice (some ⟨w6.heap.size,0,none⟩) 1 1] 25)):=(Ev.refl hE8.inv).alloc _
 have HE8:=Lib.hid (HE6.out.trans (hE8.trans hF8))
 have HV8:=Lib.hid (HV6.out.ev (hE8.trans hF8))
 have HW8:=Lib.hid (HW6.out.ev (hE8.trans hF8))
 have HRo8:=Lib.hid ((rowOk_lit1 (x:=n+1) HE6.out.inv (y:=(n:Int)+1) (by omega) HV6.out).ev hF8)
 clear hE8 hF8
 go_wp2_with (at_builtin;refine wpList_app_row 134 25 1 24 nilS Tryz.underlying134 islice_info rfl (by decide) (by decide) rfl _ _ rfl HV8.out rfl ⟨w6.heap.size+1,0,none⟩ 1 1 [.slice (some ⟨w6.heap.size,0,none⟩) 1 1] rfl ?z0 ?z1 ?z2 ?z3 ?z4 ?z5 ?_)
 try (case z0=>first|rfl|simp)
 case z1=>exact one_cell_next _ _ _
 case z2=>exact one_one _ _ _
 case z3=>have:=HLb.out;omega
 case z4=>have:=HSz6.out;simp;omega
 case z5=>exact fun q hq=>HE8.out.inv.none_of_ge hq
 intro v8' w8 ho8 hg8 hs8
 have hra8:=rows_next (xss:=outL (aftF d n) xss) HL6.out.symm HW8.out HRo8.out ho8 hg8 (fun q hq=>(hs8 q hq).imp id (fun h=>by first|exact h|simpa using h))
 have HEE8:=Lib.hid (HE8.out.appV HV8.out HE5.out.size hg8)
 have HRA8:=Lib.hid hra8
 clear hra8 ho8 hg8 hs8
 obtain⟨x0,x1,x2,_⟩:=HB1.out w8 HEE8.out
 go_wp2_with fail
 refine (r23made_any R _ HEE8.out.inv _ _ _ HRA8.out (HRw.out.sm (by have:=HTl.out;omega) (by have:=HLb.out;have:=HL5.out;simp[outL_length];omega)) _ HRw.out.lens HRw.out.below (by have:=HTl.out;omega) root lone).mono ?_
 rintro z w8e ⟨af,cf,rfl,hef,hof⟩
 rw[HRw.out.lay] at hof ⊢
 have HEf:=Lib.hid (HEE8.out.trans hef)
 have HOf:=Lib.hid hof
 have HSf:=Lib.hid HEE8.out.size
 clear hef hof x0 x1 x2
 obtain⟨y0,y1,y2,yz⟩:=boxC_cells (HB2.out _ HEf.out).1
 obtain⟨lf,hlf⟩:∃ l,(leafL s d).length=l:=⟨_,rfl⟩
 rw[hlf] at HOf
 try rw[hlf]
 have HLF:=Lib.hid hlf
 clear hlf
 simp only[refV]
 go_wp2_with fail
 have hb3:=set3 (x:=.slice af lf cf) (y:=.int .i64 root) (z:=.int .i64 lone) (HB2.out _ HEf.out).1
 obtain⟨u0,u1,u2,_⟩:=boxC_cells hb3
 have hn2:=(HB2.out _ HEf.out).2
 have hne:∀ (o:Nat),(Value.slice af lf cf).ownBlock≠some (⟨w.heap.size+1,o,none⟩:Addr).block:=fun o e'=>by
  have h1:=(HOf.out.lt _ e').1
  have h2:=HZa.out
  have h4:=HSf.out
  have h3:(⟨w.heap.size+1,o,none⟩:Addr).block=w.heap.size+1:=rfl
  omega
 try simp only[Exit.inBlock,Exit.then]
 refine bodyPost_ret (v:=.tuple #[refV (.slice af lf cf) root lone,.int .i64 0]) ?_ rfl ⟨af,cf,by rw[HLF.out],?_,?_⟩
 ·simp[results,Tryz.results75,go_sem,u0,u1,u2,refV]
 ·exact (((HEa.out.trans HEf.out).setCell (by simp) hn2 _).setCell (by simp) hn2 _).setCell (by simp) hn2 _
 ·rw[HLF.out]
  exact (((HOf.out.mono (by have:=HSf.out;have:=HZa.out;omega)).setCell (hne 0) _).setCell (hne 1) _).setCell (hne 2) _
end
section
open Go.RowKit
set_option linter.unusedVariables false
set_option maxRecDepth 100000 in
set_option maxHeartbeats 2000000 in
theorem do_chord (R:Reg) (w:World) (hI:Inv R w) (v:Value) (s:List Nat) (root lone:Int) (hv:FreeI R w v (toI s)) (hS:IsPerm s) (hn:s.length≤99000) (hev:s.length % 2=0) (d:Nat) (hd:d<s.length) (e:Nat) (he:e<s.length):
  Calls Tryz.prog 75 #[refV v root lone,.int .i64 1,.int .i64 (d:Int),.int .i64 (e:Int)] w (fun z w2=>(nth (namesL (phiL s)) (at' s d)=nth (namesL (phiL s)) (at' s e)∧RetDo R w (chordL s d e) root lone z w2)∨(nth (namesL (phiL s)) (at' s d)≠nth (namesL (phiL s)) (at' s e)∧z=.returned (.tuple #[refV v root lone,.int .i64 8])∧Ev R w R w2)):=by
 obtain⟨a0,c0,rfl,_⟩:=hv.open
 rw[toI_length] at hv ⊢
 unfold refV
 have hp:=phiL_perm hS hev
 have hpl:=phiL_length s
 have hdm:=xor_one_lt hev hd
 have hmm:d ^^^ 1<s.length:=hdm
 obtain⟨bS,oS,rfl,_⟩:=hv.at hd
 have HRd:=Lib.hid (fun w' (h:Ev R w R w') i (hi:i<s.length)=>(by
  obtain⟨b,o,e1,h1⟩:=(hv.ev h).at hi
  cases e1
  exact h1:w'.cell? ⟨bS,oS+i,none⟩=some (.int .i64 ((at' s i:Nat):Int))))
 have hsd:at' s d<s.length:=hS.lt hd
 have hse:at' s e<s.length:=hS.lt he
 have her:decide ((e:Int)<0)=false:=by simp
 have her2:decide ((s.length:Int)≤(e:Int))=false:=by simp;omega
 have HPh:=Lib.hid (fun w' (he:Ev R w R w')=>rphi_any R w' he.inv _ s root lone (hv.ev he) (by omega) hev)
 have HNm:=Lib.hid (fun w' v' (hI':Inv R w') (h:FreeI R w' v' (toI (phiL s)))=>rnames_any R w' hI' v' (phiL s) h hp (by omega))
 have HIv:=Lib.hid (fun w' (he:Ev R w R w')=>rinverse_any R w' he.inv _ s (hv.ev he) hS (by omega))
 have HMt:=Lib.hid (fun w'=>rmate_any w' d (by omega))
 have HLs:=Lib.hid (fun w' (he:Ev R w R w')=>r23lists_any R w' he.inv _ s root lone (hv.ev he) hS (by omega))
 have hsm:=lists_sm hS (by omega)
 have hll:=Nat.le_trans (listsL_len s s.length) (Nat.le_trans hn (by decide:99000≤99000))
 have hivl:=invL_length s
 have he0:Ev R w R (w.alloc (.cells #[.slice (some ⟨bS,oS,none⟩) s.length c0,.int .i64 root,.int .i64 lone] 27)):=(Ev.refl hI).alloc _
 have he01:Ev R (w.alloc (.cells #[.slice (some ⟨bS,oS,none⟩) s.length c0,.int .i64 root,.int .i64 lone] 27)) R ((w.alloc (.cells #[.slice (some ⟨bS,oS,none⟩) s.length c0,.int .i64 root,.int .i64 lone] 27)).alloc (.cells #[.slice none 0 0,.int .i64 0,.int .i64 0] 27)):=(Ev.refl he0.inv).alloc _
 have he1:Ev R w R ((w.alloc (.cells #[.slice (some ⟨bS,oS,none⟩) s.length c0,.int .i64 root,.int .i64 lone] 27)).alloc (.cells #[.slice none 0 0,.int .i64 0,.int .i64 0] 27)):=he0.trans he01
 have hn1:R w.heap.size=none:=hI.none_of_ge (Nat.le_refl _)
 have hB1:=fun w' (h:Ev R ((w.alloc (.cells #[.slice (some ⟨bS,oS,none⟩) s.length c0,.int .i64 root,.int .i64 lone] 27)).alloc (.cells #[.slice none 0 0,.int .i64 0,.int .i64 0] 27)) R w')=>(he01.trans h).boxC3 (heap_alloc_new w _) hn1
 have hB2:=fun w' (h:Ev R ((w.alloc (.cells #[.slice (some ⟨bS,oS,none⟩) s.length c0,.int .i64 root,.int .i64 lone] 27)).alloc (.cells #[.slice none 0 0,.int .i64 0,.int .i64 0] 27)) R w')=>h.boxC3 (heap_alloc_new (w.alloc (.cells #[.slice (some ⟨bS,oS,none⟩) s.length c0,.int .i64 root,.int .i64 lone] 27)) (.cells #[.slice none 0 0,.int .i64 0,.int .i64 0] 27)) (he0.inv.none_of_ge (Nat.le_refl _))
 have hza:((w.alloc (.cells #[.slice (some ⟨bS,oS,none⟩) s.length c0,.int .i64 root,.int .i64 lone] 27)).alloc (.cells #[.slice none 0 0,.int .i64 0,.int .i64 0] 27)).heap.size=w.heap.size+2:=by simp
 rw[World.size_alloc] at hB2
 obtain⟨n,hnn⟩:∃ n,s.length=n:=⟨_,rfl⟩
 obtain⟨m,hm⟩:∃ m,d ^^^ 1=m:=⟨_,rfl⟩
 obtain⟨xss,hxs⟩:∃ x,listsL s s.length=x:=⟨_,rfl⟩
 have HXs:=Lib.hid hxs
 rw[hnn] at hxs
 rw[hm] at HMt hmm
 rw[HXs.out] at hsm hll
 rw[hnn,hxs] at HLs
 rw[hnn] at HPh HIv he0 he01 he1 hB1 hB2 hza hpl hivl hn hd hev hmm ⊢
 have hrw0:=chord_rows hS (d:=d) (e:=e) (by omega) (by omega)
 rw[hnn,hxs] at hrw0
 rw[hnn] at HRd hsd hse her2 he
 have HRw:=Lib.hid hrw0
 have HTl:=Lib.hid (show (chordL s d e).length=n+2 by rw[chordL,behindL_length,leafL_length,hnn])
 obtain⟨pd,hpd⟩:∃ p,at' s d=p:=⟨_,rfl⟩
 obtain⟨pe,hpe⟩:∃ p,at' s e=p:=⟨_,rfl⟩
 have HPd:=Lib.hid hpd
 have HPe:=Lib.hid hpe
 rw[hpd] at hsd
 rw[hpe] at hse
 rw[hpd,hpe]
 obtain⟨NF,hNF⟩:∃ N,namesL (phiL s)=N:=⟨_,rfl⟩
 have HNF:=Lib.hid hNF
 rw[hNF] at HNm ⊢
 have hnfl:NF.length=n:=by rw[←hNF,namesL_length,hpl]
 have HNl:=Lib.hid hnfl
 obtain⟨qd,hqd⟩:∃ q,nth NF pd=q:=⟨_,rfl⟩
 obtain⟨qe,hqe⟩:∃ q,nth NF pe=q:=⟨_,rfl⟩
 rw[hqd,hqe]
 have HQd:=Lib.hid hqd
 have HQe:=Lib.hid hqe
 clear hrw0 hpd hpe hNF hnfl hqd hqe
 have HNn:=Lib.hid hnn
 have HMe:=Lib.hid hm
 have HS:=Lib.hid hS
 have HSm:=Lib.hid hsm
 have HLl:=Lib.hid hll
 have HHv:=Lib.hid hv
 clear hI hv hS hnn hm hsm hll hxs hp
 go_enter Tryz.func75,Tryz.ntmps75
 go_upto_region 1 with fail
 obtain⟨wa,hwa⟩:∃ wa,(w.alloc (.cells #[.slice (some ⟨bS,oS,none⟩) n c0,.int .i64 root,.int .i64 lone] 27)).alloc (.cells #[.slice none 0 0,.int .i64 0,.int .i64 0] 27)=wa:=⟨_,rfl⟩
 try rw[hwa] at he1 hB1 hB2 hza ⊢
 have HB1:=Lib.hid (fun w' (h:Ev R wa R w')=>boxC_cells (hB1 w' h).1)
 have HB2:=Lib.hid hB2
 have HZa:=Lib.hid hza
 have HEa:=Lib.hid he1
 obtain⟨x0,x1,x2,_⟩:=HB1.out _ (Ev.refl he1.inv)
 have hdr:decide ((d:Int)<0)=false:=by simp
 have hdr2:decide ((n:Int)≤(d:Int))=false:=by simp;omega
 clear he0 he01 he1 hB1 hB2 hza hwa hn1
 go_wp2_with fail
 refine (HPh.out _ HEa.out).mono ?_
 rintro z w2 ⟨v2,rfl,he2,ho2⟩
 obtain⟨a2,c2,rfl,_⟩:=ho2.ints.open
 rw[toI_length,hpl] at ho2 ⊢
 have HE2:=Lib.hid he2
 have HO2:=Lib.hid ho2
 clear he2 ho2 x0 x1 x2
 go_wp2_with fail
 refine (HNm.out _ _ HE2.out.inv HO2.out.free).mono ?_
 rintro z w3 ⟨v3,rfl,he3,ho3⟩
 obtain⟨a3,c3,rfl,_⟩:=ho3.ints.open
 rw[HNl.out] at ho3 ⊢
 have HE3:=Lib.hid (HE2.out.trans he3)
 have HO3:=Lib.hid ho3
 have HO2:=Lib.hid (HO2.out.ev he3)
 obtain⟨x0,x1,x2,_⟩:=HB1.out w3 HE3.out
 clear he3 ho3
 go_wp2_with fail
 refine (HIv.out _ (HEa.out.trans HE3.out)).mono ?_
 rintro z w4 ⟨v4,rfl,he4,ho4⟩
 obtain⟨a4,c4,rfl,_⟩:=ho4.ints.open
 rw[toI_length,hivl] at ho4 ⊢
 have HE4:=Lib.hid (HE3.out.trans he4)
 have HO4:=Lib.hid ho4
 have HO2:=Lib.hid (HO2.out.ev he4)
 have HO3:=Lib.hid (HO3.out.ev he4)
 clear he4 ho4 x0 x1 x2
 go_wp2_with fail
 refine (HMt.out _).mono ?_
 rintro z w4' ⟨rfl,rfl⟩
 obtain⟨x0,x1,x2,_⟩:=HB1.out w4 HE4.out
 go_wp2_with fail
 refine (HLs.out _ (HEa.out.trans HE4.out)).mono ?_
 rintro z w5 ⟨a5,c5,vs5,rfl,he5,hov5,hrw5⟩
 have hR5:RowsAt R w4.heap.size w5 (.slice a5 xss.length c5) xss:=⟨a5,c5,vs5,rfl,hov5,hrw5⟩
 have HE5:=Lib.hid (HE4.out.trans he5)
 have HR5:=Lib.hid hR5
 have HO2:=Lib.hid (HO2.out.ev he5)
 have HO3:=Lib.hid (HO3.out.ev he5)
 have HO4:=Lib.hid (HO4.out.ev he5)
 obtain⟨l5,hl5⟩:∃ l,xss.length=l:=⟨_,rfl⟩
 try rw[hl5]
 rw[hl5] at HR5
 have HL5:=Lib.hid hl5
 have HLb:=Lib.hid (show l5≤99000 by rw[←hl5];exact HLl.out)
 clear he5 hov5 hrw5 hR5 hl5 x0 x1 x2
 go_wp2_with fail
 have hrd:=HRd.out _ (HEa.out.trans HE5.out)
 have hcd:=hrd d hd
 have hce:=hrd e he
 rw[HPd.out] at hcd
 rw[HPe.out] at hce
 obtain⟨g3,rfl,_,_,hcf,_⟩:=HO3.out.headAt HNl.out hsd
 obtain⟨g3',e3',_,_,hcg,_⟩:=HO3.out.headAt HNl.out hse
 cases e3'
 clear hrd
 obtain⟨x0,x1,x2,_⟩:=HB1.out w5 HE5.out
 rw[HQd.out] at hcf
 rw[HQe.out] at hcg
 have hE5d:Ev R w5 R w5.drew:=(Ev.refl HE5.out.inv).drew
 have HE5d:=Lib.hid hE5d
 by_cases hq:qd=qe
 ·have hqb:(qd != qe)=false:=by simp[hq]
  have HQ:=Lib.hid hq
  clear hq hE5d
  go_region
  all_goals go_wp2_with fail
  have HEE5:=Lib.hid (HE5.out.trans HE5d.out)
  have HRd5:=Lib.hid (HR5.out.ev HE5d.out)
  clear hqb x0 x1 x2 hcd hce hcf hcg
  refine (after_any R _ HEE5.out.inv _ _ xss HRd5.out HSm.out d n (by omega) (by omega)).mono ?_
  rintro z w6 ⟨a6,c6,vs6,rfl,he6,hov6,hrw6⟩
  have hL6:(outL (aftF d n) xss).length=l5:=(outL_length _ _).trans HL5.out
  have hR6:RowsAt R w5.drew.heap.size w6 (.slice a6 (outL (aftF d n) xss).length c6) (outL (aftF d n) xss):=⟨a6,c6,vs6,rfl,hov6,hrw6⟩
  rw[hL6] at hR6 ⊢
  have HE6:=Lib.hid (HEE5.out.trans he6)
  have HR6:=Lib.hid hR6
  have HL6:=Lib.hid hL6
  have HSm6:=Lib.hid (((lists_rowsF HS.out).after (t:=d) (d:=s.length) (by rw[HNn.out];exact hd) (Nat.lt_irrefl _)).sm (N:=n+1) (fun y hy=>by have:=HNn.out;omega) (by omega) (by rw[outL_length,HXs.out];have:=HLl.out;omega))
  rw[HNn.out,show listsL s n=xss by rw[←HNn.out];exact HXs.out] at HSm6
  clear he6 hov6 hrw6 hL6 hR6
  by_cases hde:d=e
  ·have hrw:=HRw.out
   rw[if_pos hde] at hrw
   have HRw:=Lib.hid hrw
   have hdb:((d:Int) == (e:Int))=true:=by simp[hde]
   clear hrw hde
   go_wp2_with fail
   refine (after_any R _ HE6.out.inv _ _ (outL (aftF d n) xss) HR6.out HSm6.out n (n+1) (by omega) (by omega)).mono ?_
   rintro z w8 ⟨a8,c8,vs8,rfl,he8,hov8,hrw8⟩
   have hR8:RowsAt R w6.heap.size w8 (.slice a8 (outL (aftF n (n+1)) (outL (aftF d n) xss)).length c8) (outL (aftF n (n+1)) (outL (aftF d n) xss)):=⟨a8,c8,vs8,rfl,hov8,hrw8⟩
   have HRA8:=Lib.hid hR8
   have HEE8:=Lib.hid (HE6.out.trans he8)
   clear he8 hov8 hrw8 hR8
   obtain⟨x0,x1,x2,_⟩:=HB1.out w8 HEE8.out
   go_wp2_with fail
   refine (r23made_any R _ HEE8.out.inv _ _ _ HRA8.out (HRw.out.sm (by have:=HTl.out;omega) (by have:=HLb.out;have:=HL5.out;simp[outL_length];omega)) _ HRw.out.lens HRw.out.below (by have:=HTl.out;omega) root lone).mono ?_
   rintro z w8e ⟨af,cf,rfl,hef,hof⟩
   rw[HRw.out.lay] at hof ⊢
   have HEf:=Lib.hid (HEE8.out.trans hef)
   have HOf:=Lib.hid hof
   have HSf:=Lib.hid HEE8.out.size
   clear hef hof x0 x1 x2
   obtain⟨y0,y1,y2,yz⟩:=boxC_cells (HB2.out _ HEf.out).1
   obtain⟨lf,hlf⟩:∃ l,(chordL s d e).length=l:=⟨_,rfl⟩
   rw[hlf] at HOf
   try rw[hlf]
   have HLF:=Lib.hid hlf
   clear hlf
   simp only[refV]
   go_wp2_with fail
   have hb3:=set3 (x:=.slice af lf cf) (y:=.int .i64 root) (z:=.int .i64 lone) (HB2.out _ HEf.out).1
   obtain⟨u0,u1,u2,_⟩:=boxC_cells hb3
   have hn2:=(HB2.out _ HEf.out).2
   have hne:∀ (o:Nat),(Value.slice af lf cf).ownBlock≠some (⟨w.heap.size+1,o,none⟩:Addr).block:=fun o e'=>by
    have h1:=(HOf.out.lt _ e').1
    have h2:=HZa.out
    have h4:=HSf.out
    have h3:(⟨w.heap.size+1,o,none⟩:Addr).block=w.heap.size+1:=rfl
    omega
   try simp only[Exit.inBlock,Exit.then]
   refine bodyPost_ret (v:=.tuple #[refV (.slice af lf cf) root lone,.int .i64 0]) ?_ rfl (Or.inl ⟨HQ.out,⟨af,cf,by rw[HLF.out],?_,?_⟩⟩)
   ·simp[results,Tryz.results75,go_sem,u0,u1,u2,refV]
   ·exact (((HEa.out.trans HEf.out).setCell (by simp) hn2 _).setCell (by simp) hn2 _).setCell (by simp) hn2 _
   ·rw[HLF.out]
    exact (((HOf.out.mono (by have:=HSf.out;have:=HZa.out;omega)).setCell (hne 0) _).setCell (hne 1) _).setCell (hne 2) _
  ·have hrw:=HRw.out
   rw[if_neg hde] at hrw
   have HRw:=Lib.hid hrw
   have hdb:((d:Int) == (e:Int))=false:=by simp;omega
   clear hrw hde
   go_wp2_with fail
   refine (after_any R _ HE6.out.inv _ _ (outL (aftF d n) xss) HR6.out HSm6.out e (n+1) (by omega) (by omega)).mono ?_
   rintro z w8 ⟨a8,c8,vs8,rfl,he8,hov8,hrw8⟩
   have hR8:RowsAt R w6.heap.size w8 (.slice a8 (outL (aftF e (n+1)) (outL (aftF d n) xss)).length c8) (outL (aftF e (n+1)) (outL (aftF d n) xss)):=⟨a8,c8,vs8,rfl,hov8,hrw8⟩
   have HRA8:=Lib.hid hR8
   have HEE8:=Lib.hid (HE6.out.trans he8)
   clear he8 hov8 hrw8 hR8
   obtain⟨x0,x1,x2,_⟩:=HB1.out w8 HEE8.out
   go_wp2_with fail
   refine (r23made_any R _ HEE8.out.inv _ _ _ HRA8.out (HRw.out.sm (by have:=HTl.out;omega) (by have:=HLb.out;have:=HL5.out;simp[outL_length];omega)) _ HRw.out.lens HRw.out.below (by have:=HTl.out;omega) root lone).mono ?_
   rintro z w8e ⟨af,cf,rfl,hef,hof⟩
   rw[HRw.out.lay] at hof ⊢
   have HEf:=Lib.hid (HEE8.out.trans hef)
   have HOf:=Lib.hid hof
   have HSf:=Lib.hid HEE8.out.size
   clear hef hof x0 x1 x2
   obtain⟨y0,y1,y2,yz⟩:=boxC_cells (HB2.out _ HEf.out).1
   obtain⟨lf,hlf⟩:∃ l,(chordL s d e).length=l:=⟨_,rfl⟩
   rw[hlf] at HOf
   try rw[hlf]
   have HLF:=Lib.hid hlf
   clear hlf
   simp only[refV]
   go_wp2_with fail
   have hb3:=set3 (x:=.slice af lf cf) (y:=.int .i64 root) (z:=.int .i64 lone) (HB2.out _ HEf.out).1
   obtain⟨u0,u1,u2,_⟩:=boxC_cells hb3
   have hn2:=(HB2.out _ HEf.out).2
   have hne:∀ (o:Nat),(Value.slice af lf cf).ownBlock≠some (⟨w.heap.size+1,o,none⟩:Addr).block:=fun o e'=>by
    have h1:=(HOf.out.lt _ e').1
    have h2:=HZa.out
    have h4:=HSf.out
    have h3:(⟨w.heap.size+1,o,none⟩:Addr).block=w.heap.size+1:=rfl
    omega
   try simp only[Exit.inBlock,Exit.then]
   refine bodyPost_ret (v:=.tuple #[refV (.slice af lf cf) root lone,.int .i64 0]) ?_ rfl (Or.inl ⟨HQ.out,⟨af,cf,by rw[HLF.out],?_,?_⟩⟩)
   ·simp[results,Tryz.results75,go_sem,u0,u1,u2,refV]
   ·exact (((HEa.out.trans HEf.out).setCell (by simp) hn2 _).setCell (by simp) hn2 _).setCell (by simp) hn2 _
   ·rw[HLF.out]
    exact (((HOf.out.mono (by have:=HSf.out;have:=HZa.out;omega)).setCell (hne 0) _).setCell (hne 1) _).setCell (hne 2) _
 ·have hqb:(qd != qe)=true:=by simp[hq]
  have HQ:=Lib.hid hq
  clear hq hE5d
  obtain⟨y0,y1,y2,yz⟩:=boxC_cells (HB2.out _ HE5.out).1
  go_region
  all_goals go_wp2_with fail
  have hb3:=set3 (x:=.slice (some ⟨bS,oS,none⟩) n c0) (y:=.int .i64 root) (z:=.int .i64 lone) (HB2.out _ HE5.out).1
  obtain⟨u0,u1,u2,_⟩:=boxC_cells hb3
  have hn2:=(HB2.out _ HE5.out).2
  refine bodyPost_ret (v:=.tuple #[refV (.slice (some ⟨bS,oS,none⟩) n c0) root lone,.int .i64 8]) ?_ rfl (Or.inr ⟨HQ.out,rfl,?_⟩)
  ·simp[results,Tryz.results75,go_sem,u0,u1,u2,refV]
  ·exact ((((HEa.out.trans HE5.out).setCell (by simp) hn2 _).setCell (by simp) hn2 _).setCell (by simp) hn2 _).drew
end
section
open Go.RowKit
set_option linter.unusedVariables false
set_option maxRecDepth 100000 in
set_option maxHeartbeats 2000000 in
theorem do_split (R:Reg) (w:World) (hI:Inv R w) (v:Value) (s:List Nat) (root lone:Int) (hv:FreeI R w v (toI s)) (hS:IsPerm s) (hn:s.length≤99000) (hev:s.length % 2=0) (d:Nat) (hd:d<s.length) (e:Int):
  Calls Tryz.prog 75 #[refV v root lone,.int .i64 2,.int .i64 (d:Int),.int .i64 e] w (RetDo R w (splitL s d) root lone):=by
 obtain⟨a0,c0,rfl,_⟩:=hv.open
 rw[toI_length] at hv ⊢
 unfold refV
 have hp:=phiL_perm hS hev
 have hpl:=phiL_length s
 have hdm:=xor_one_lt hev hd
 have hmm:d ^^^ 1<s.length:=hdm
 have HPh:=Lib.hid (fun w' (he:Ev R w R w')=>rphi_any R w' he.inv _ s root lone (hv.ev he) (by omega) hev)
 have HNm:=Lib.hid (fun w' v' (hI':Inv R w') (h:FreeI R w' v' (toI (phiL s)))=>rnames_any R w' hI' v' (phiL s) h hp (by omega))
 have HIv:=Lib.hid (fun w' (he:Ev R w R w')=>rinverse_any R w' he.inv _ s (hv.ev he) hS (by omega))
 have HMt:=Lib.hid (fun w'=>rmate_any w' d (by omega))
 have HLs:=Lib.hid (fun w' (he:Ev R w R w')=>r23lists_any R w' he.inv _ s root lone (hv.ev he) hS (by omega))
 have hsm:=lists_sm hS (by omega)
 have hll:=Nat.le_trans (listsL_len s s.length) (Nat.le_trans hn (by decide:99000≤99000))
 have hivl:=invL_length s
 have he0:Ev R w R (w.alloc (.cells #[.slice a0 s.length c0,.int .i64 root,.int .i64 lone] 27)):=(Ev.refl hI).alloc _
 have he01:Ev R (w.alloc (.cells #[.slice a0 s.length c0,.int .i64 root,.int .i64 lone] 27)) R ((w.alloc (.cells #[.slice a0 s.length c0,.int .i64 root,.int .i64 lone] 27)).alloc (.cells #[.slice none 0 0,.int .i64 0,.int .i64 0] 27)):=(Ev.refl he0.inv).alloc _
 have he1:Ev R w R ((w.alloc (.cells #[.slice a0 s.length c0,.int .i64 root,.int .i64 lone] 27)).alloc (.cells #[.slice none 0 0,.int .i64 0,.int .i64 0] 27)):=he0.trans he01
 have hn1:R w.heap.size=none:=hI.none_of_ge (Nat.le_refl _)
 have hB1:=fun w' (h:Ev R ((w.alloc (.cells #[.slice a0 s.length c0,.int .i64 root,.int .i64 lone] 27)).alloc (.cells #[.slice none 0 0,.int .i64 0,.int .i64 0] 27)) R w')=>(he01.trans h).boxC3 (heap_alloc_new w _) hn1
 have hB2:=fun w' (h:Ev R ((w.alloc (.cells #[.slice a0 s.length c0,.int .i64 root,.int .i64 lone] 27)).alloc (.cells #[.slice none 0 0,.int .i64 0,.int .i64 0] 27)) R w')=>h.boxC3 (heap_alloc_new (w.alloc (.cells #[.slice a0 s.length c0,.int .i64 root,.int .i64 lone] 27)) (.cells #[.slice none 0 0,.int .i64 0,.int .i64 0] 27)) (he0.inv.none_of_ge (Nat.le_refl _))
 have hza:((w.alloc (.cells #[.slice a0 s.length c0,.int .i64 root,.int .i64 lone] 27)).alloc (.cells #[.slice none 0 0,.int .i64 0,.int .i64 0] 27)).heap.size=w.heap.size+2:=by simp
 rw[World.size_alloc] at hB2
 obtain⟨n,hnn⟩:∃ n,s.length=n:=⟨_,rfl⟩
 obtain⟨m,hm⟩:∃ m,d ^^^ 1=m:=⟨_,rfl⟩
 obtain⟨xss,hxs⟩:∃ x,listsL s s.length=x:=⟨_,rfl⟩
 have HXs:=Lib.hid hxs
 rw[hnn] at hxs
 rw[hm] at HMt hmm
 rw[HXs.out] at hsm hll
 rw[hnn,hxs] at HLs
 rw[hnn] at HPh HIv he0 he01 he1 hB1 hB2 hza hpl hivl hn hd hev hmm ⊢
 have hrw0:=split_rows hS hm (by omega)
 have hs6:=(((lists_rowsF hS).after (t:=m) (d:=s.length+1) (by omega) (by omega))).sm (N:=n+2) (fun y hy=>by rcases hy with h|h <;> omega) (by omega) (by rw[outL_length,HXs.out];omega)
 rw[hnn,hxs] at hrw0 hs6
 have HRw:=Lib.hid hrw0
 have HSm6:=Lib.hid hs6
 have HTl:=Lib.hid (show (splitL s d).length=n+2 by rw[splitL_length,hnn])
 clear hrw0 hs6
 have HNn:=Lib.hid hnn
 have HMe:=Lib.hid hm
 have HS:=Lib.hid hS
 have HSm:=Lib.hid hsm
 have HLl:=Lib.hid hll
 have HHv:=Lib.hid hv
 clear hI hv hS hnn hm hsm hll hxs hp
 go_enter Tryz.func75,Tryz.ntmps75
 go_upto_region 1 with fail
 obtain⟨wa,hwa⟩:∃ wa,(w.alloc (.cells #[.slice a0 n c0,.int .i64 root,.int .i64 lone] 27)).alloc (.cells #[.slice none 0 0,.int .i64 0,.int .i64 0] 27)=wa:=⟨_,rfl⟩
 try rw[hwa] at he1 hB1 hB2 hza ⊢
 have HB1:=Lib.hid (fun w' (h:Ev R wa R w')=>boxC_cells (hB1 w' h).1)
 have HB2:=Lib.hid hB2
 have HZa:=Lib.hid hza
 have HEa:=Lib.hid he1
 obtain⟨x0,x1,x2,_⟩:=HB1.out _ (Ev.refl he1.inv)
 have hdr:decide ((d:Int)<0)=false:=by simp
 have hdr2:decide ((n:Int)≤(d:Int))=false:=by simp;omega
 clear he0 he01 he1 hB1 hB2 hza hwa hn1
 go_wp2_with fail
 refine (HPh.out _ HEa.out).mono ?_
 rintro z w2 ⟨v2,rfl,he2,ho2⟩
 obtain⟨a2,c2,rfl,_⟩:=ho2.ints.open
 rw[toI_length,hpl] at ho2 ⊢
 have HE2:=Lib.hid he2
 have HO2:=Lib.hid ho2
 clear he2 ho2 x0 x1 x2
 go_wp2_with fail
 refine (HNm.out _ _ HE2.out.inv HO2.out.free).mono ?_
 rintro z w3 ⟨v3,rfl,he3,ho3⟩
 obtain⟨a3,c3,rfl,_⟩:=ho3.ints.open
 rw[namesL_length,hpl] at ho3 ⊢
 have HE3:=Lib.hid (HE2.out.trans he3)
 have HO3:=Lib.hid ho3
 have HO2:=Lib.hid (HO2.out.ev he3)
 obtain⟨x0,x1,x2,_⟩:=HB1.out w3 HE3.out
 clear he3 ho3
 go_wp2_with fail
 refine (HIv.out _ (HEa.out.trans HE3.out)).mono ?_
 rintro z w4 ⟨v4,rfl,he4,ho4⟩
 obtain⟨a4,c4,rfl,_⟩:=ho4.ints.open
 rw[toI_length,hivl] at ho4 ⊢
 have HE4:=Lib.hid (HE3.out.trans he4)
 have HO4:=Lib.hid ho4
 have HO2:=Lib.hid (HO2.out.ev he4)
 have HO3:=Lib.hid (HO3.out.ev he4)
 clear he4 ho4 x0 x1 x2
 go_wp2_with fail
 refine (HMt.out _).mono ?_
 rintro z w4' ⟨rfl,rfl⟩
 obtain⟨x0,x1,x2,_⟩:=HB1.out w4 HE4.out
 go_wp2_with fail
 refine (HLs.out _ (HEa.out.trans HE4.out)).mono ?_
 rintro z w5 ⟨a5,c5,vs5,rfl,he5,hov5,hrw5⟩
 have hR5:RowsAt R w4.heap.size w5 (.slice a5 xss.length c5) xss:=⟨a5,c5,vs5,rfl,hov5,hrw5⟩
 have HE5:=Lib.hid (HE4.out.trans he5)
 have HR5:=Lib.hid hR5
 have HO2:=Lib.hid (HO2.out.ev he5)
 have HO3:=Lib.hid (HO3.out.ev he5)
 have HO4:=Lib.hid (HO4.out.ev he5)
 obtain⟨l5,hl5⟩:∃ l,xss.length=l:=⟨_,rfl⟩
 try rw[hl5]
 rw[hl5] at HR5
 have HL5:=Lib.hid hl5
 have HLb:=Lib.hid (show l5≤99000 by rw[←hl5];exact HLl.out)
 clear he5 hov5 hrw5 hR5 hl5 x0 x1 x2
 go_wp2_with fail
 refine (after_any R _ HE5.out.inv _ _ (xss) HR5.out HSm.out m (n+1) (by omega) (by omega)).mono ?_
 rintro z w6 ⟨a6,c6,vs6,rfl,he6,hov6,hrw6⟩
 have hL6:(outL (aftF m (n+1)) xss).length=l5:=by simp only[outL_length];exact HL5.out
 have hR6:RowsAt R w5.heap.size w6 (.slice a6 (outL (aftF m (n+1)) xss).length c6) (outL (aftF m (n+1)) xss):=⟨a6,c6,vs6,rfl,hov6,hrw6⟩
 rw[hL6] at hR6 hov6 hrw6 ⊢
 have HE6:=Lib.hid (HE5.out.trans he6)
 have HR6:=Lib.hid hR6
 have HV6:=Lib.hid hov6
 have HW6:=Lib.hid hrw6
 have HL6:=Lib.hid hL6
 have HSz6:=Lib.hid he6.size
 clear he6 hov6 hrw6 hL6 hR6
 go_wp2_with fail
 refine (without_any R _ HE6.out.inv _ _ (outL (aftF m (n+1)) xss) HR6.out HSm6.out m (by omega)).mono ?_
 rintro z w7 ⟨a7,c7,vs7,rfl,he7,hov7,hrw7⟩
 have hL7:(outL (witF m) (outL (aftF m (n+1)) xss)).length=l5:=by simp only[outL_length];exact HL5.out
 have hR7:RowsAt R w6.heap.size w7 (.slice a7 (outL (witF m) (outL (aftF m (n+1)) xss)).length c7) (outL (witF m) (outL (aftF m (n+1)) xss)):=⟨a7,c7,vs7,rfl,hov7,hrw7⟩
 rw[hL7] at hR7 hov7 hrw7 ⊢
 have HE7:=Lib.hid (HE6.out.trans he7)
 have HR7:=Lib.hid hR7
 have HV7:=Lib.hid hov7
 have HW7:=Lib.hid hrw7
 have HL7:=Lib.hid hL7
 have HSz7:=Lib.hid he7.size
 clear he7 hov7 hrw7 hL7 hR7
 have hE8:Ev R w7 R (w7.alloc (.cells #[.int .i64 ((n:Int)),.int .i64 ((m:Int))] 3)):=(Ev.refl HE7.out.inv).alloc _
 have hF8:Ev R (w7.alloc (.cells #[.int .i64 ((n:Int)),.int .i64 ((m:Int))] 3)) R ((w7.alloc (.cells #[.int .i64 ((n:Int)),.int .i64 ((m:Int))] 3)).alloc (.cells #[.slice (some ⟨w7.heap.size,0,none⟩) 2 2] 25)):=(Ev.refl hE8.inv).alloc _
 have HE8:=Lib.hid (HE7.out.trans (hE8.trans hF8))
 have HV8:=Lib.hid (HV7.out.ev (hE8.trans hF8))
 have HW8:=Lib.hid (HW7.out.ev (hE8.trans hF8))
 have HRo8:=Lib.hid ((rowOk_lit2 (x:=n) (y:=m) HE7.out.inv (x':=(n:Int)) (y':=(m:Int)) rfl rfl HV7.out).ev hF8)
 clear hE8 hF8
 go_wp2_with (at_builtin;refine wpList_app_row 134 25 1 24 nilS Tryz.underlying134 islice_info rfl (by decide) (by decide) rfl _ _ rfl HV8.out rfl ⟨w7.heap.size+1,0,none⟩ 1 1 [.slice (some ⟨w7.heap.size,0,none⟩) 2 2] rfl ?z0 ?z1 ?z2 ?z3 ?z4 ?z5 ?_)
 try (case z0=>first|rfl|simp)
 case z1=>exact one_cell_next _ _ _
 case z2=>exact one_one _ _ _
 case z3=>have:=HLb.out;omega
 case z4=>have:=HSz7.out;simp;omega
 case z5=>exact fun q hq=>HE8.out.inv.none_of_ge hq
 intro v8' w8 ho8 hg8 hs8
 have hra8:=rows_next (xss:=outL (witF m) (outL (aftF m (n+1)) xss)) HL7.out.symm HW8.out HRo8.out ho8 hg8 (fun q hq=>(hs8 q hq).imp id (fun h=>by first|exact h|simpa using h))
 have HEE8:=Lib.hid (HE8.out.appV HV8.out HE6.out.size hg8)
 have HRA8:=Lib.hid hra8
 clear hra8 ho8 hg8 hs8
 obtain⟨x0,x1,x2,_⟩:=HB1.out w8 HEE8.out
 go_wp2_with fail
 refine (r23made_any R _ HEE8.out.inv _ _ _ HRA8.out (HRw.out.sm (by have:=HTl.out;omega) (by have:=HLb.out;have:=HL5.out;simp[outL_length];omega)) _ HRw.out.lens HRw.out.below (by have:=HTl.out;omega) root lone).mono ?_
 rintro z w8e ⟨af,cf,rfl,hef,hof⟩
 rw[HRw.out.lay] at hof ⊢
 have HEf:=Lib.hid (HEE8.out.trans hef)
 have HOf:=Lib.hid hof
 have HSf:=Lib.hid HEE8.out.size
 clear hef hof x0 x1 x2
 obtain⟨y0,y1,y2,yz⟩:=boxC_cells (HB2.out _ HEf.out).1
 obtain⟨lf,hlf⟩:∃ l,(splitL s d).length=l:=⟨_,rfl⟩
 rw[hlf] at HOf
 try rw[hlf]
 have HLF:=Lib.hid hlf
 clear hlf
 simp only[refV]
 go_wp2_with fail
 have hb3:=set3 (x:=.slice af lf cf) (y:=.int .i64 root) (z:=.int .i64 lone) (HB2.out _ HEf.out).1
 obtain⟨u0,u1,u2,_⟩:=boxC_cells hb3
 have hn2:=(HB2.out _ HEf.out).2
 have hne:∀ (o:Nat),(Value.slice af lf cf).ownBlock≠some (⟨w.heap.size+1,o,none⟩:Addr).block:=fun o e'=>by
  have h1:=(HOf.out.lt _ e').1
  have h2:=HZa.out
  have h4:=HSf.out
  have h3:(⟨w.heap.size+1,o,none⟩:Addr).block=w.heap.size+1:=rfl
  omega
 try simp only[Exit.inBlock,Exit.then]
 refine bodyPost_ret (v:=.tuple #[refV (.slice af lf cf) root lone,.int .i64 0]) ?_ rfl (⟨af,cf,by rw[HLF.out],?_,?_⟩)
 ·simp[results,Tryz.results75,go_sem,u0,u1,u2,refV]
 ·exact (((HEa.out.trans HEf.out).setCell (by simp) hn2 _).setCell (by simp) hn2 _).setCell (by simp) hn2 _
 ·rw[HLF.out]
  exact (((HOf.out.mono (by have:=HSf.out;have:=HZa.out;omega)).setCell (hne 0) _).setCell (hne 1) _).setCell (hne 2) _
end
section
set_option linter.unusedVariables false
structure GrownL (s t:List Nat) (v f:Int):Prop where
 perm:IsPerm t
 even:t.length % 2=0
 parts:partsN t=partsN s
 vs:((sizesL t).length:Int)=(sizesL s).length+v
 fs:((sizesL (phiL t)).length:Int)=(sizesL (phiL s)).length+f
 es:((t.length / 2:Nat):Int)=((s.length / 2:Nat):Int)+(v+f)
theorem insF_t (f:Nat→Nat) (t d:Nat):insF f t d t=d:=by unfold insF;rw[if_pos rfl]
theorem insF_d {f:Nat→Nat} {t d:Nat} (h:d≠t):insF f t d d=f t:=by unfold insF;rw[if_neg h,if_pos rfl]
theorem insF_o {f:Nat→Nat} {t d x:Nat} (h:x≠t) (h2:x≠d):insF f t d x=f x:=by unfold insF;rw[if_neg h,if_neg h2]
theorem delF_d {f:Nat→Nat} {d x:Nat} (h:f x=d):delF f d x=f d:=by unfold delF;rw[if_pos h]
theorem delF_o {f:Nat→Nat} {d x:Nat} (h:f x≠d):delF f d x=f x:=by unfold delF;rw[if_neg h]
theorem xor_add {n k:Nat} (hn:n % 2=0) (h:k<2):(n+k) ^^^ 1=n+(1-k):=by
 rw[xor_one]
 split <;> omega
theorem leaf_phi {s:List Nat} (hes:s.length % 2=0) {d:Nat} (hd:d<s.length) {y:Nat} (hy:y<s.length+2):at' (phiL (leafL s d)) y=insF (insF (at' (phiL s)) (d ^^^ 1) s.length) s.length (s.length+1) y:=by
 have hdl:=xor_one_lt hes hd
 rw[phiL_at (by rw[leafL_length];exact hy)]
 have n0:s.length ^^^ 1=s.length+1:=xor_add (k:=0) hes (by omega)
 have n1:(s.length+1) ^^^ 1=s.length:=xor_add (k:=1) hes (by omega)
 by_cases h1:y=s.length
 ·rw[h1,n0,insF_t,leaf_at hd (by omega),if_pos rfl]
 by_cases h2:y=s.length+1
 ·rw[h2,n1,insF_d (by omega),leaf_at hd (by omega),if_neg (by omega),insF_d (by omega),insF_d (by omega),phiL_at hdl,xor_one_one]
 have hyl:y<s.length:=by omega
 have hyx:=xor_one_lt hes hyl
 rw[insF_o h1 h2,leaf_at hd (by omega),if_neg (by omega)]
 by_cases h3:y=d ^^^ 1
 ·rw[h3,xor_one_one,insF_t,insF_t]
 ·have h4:y ^^^ 1≠d:=fun e=>h3 (by rw[←e,xor_one_one])
  rw[insF_o h4 (by omega),insF_o h3 h1,phiL_at hyl]
theorem lists_phi {s:List Nat} (hs:IsPerm s) (hes:s.length % 2=0):(listsL (phiL s) s.length).length=(sizesL (phiL s)).length:=by
 have:=lists_count (phiL_perm hs hes)
 rwa [phiL_length] at this
theorem lists_phi_ne {s:List Nat} (hs:IsPerm s) (hes:s.length % 2=0):∀ v,v∈listsL (phiL s) s.length→v≠[]:=by
 have:=lists_ne (phiL_perm hs hes)
 rwa [phiL_length] at this
section
variable {s : List Nat} (hs : IsPerm s) (hes : s.length % 2 = 0) {d : Nat} (hd : d < s.length)
include hs hes hd
theorem leaf_faces:RowsOf (outL (aftF s.length (s.length+1)) (outL (aftF (d ^^^ 1) s.length) (listsL (phiL s) s.length))) (phiL (leafL s d)):=by
 have hdl:=xor_one_lt hes hd
 have h0:=lists_rowsF (phiL_perm hs hes)
 rw[phiL_length] at h0
 have h1:=(h0.after (t:=d ^^^ 1) (d:=s.length) hdl (Nat.lt_irrefl _)).after (t:=s.length) (d:=s.length+1) (Or.inr rfl) (by omega)
 refine h1.rows (fun y=>by rw[phiL_length,leafL_length];omega) fun y hy=>?_
 rw[phiL_length,leafL_length] at hy
 exact leaf_phi hes hd hy
theorem leaf_grown:GrownL s (leafL s d) 1 0:=by
 have hr:=leaf_rows hs hd
 have ht:=hr.isPerm
 have hl:=leafL_length s d
 have he:(leafL s d).length % 2=0:=by rw[hl];omega
 have pt:=Con.per ht
 have ps:=Con.per hs
 have n0:s.length ^^^ 1=s.length+1:=xor_add (k:=0) hes (by omega)
 have n1:(s.length+1) ^^^ 1=s.length:=xor_add (k:=1) hes (by omega)
 have hdn:Con (leafL s d) d s.length:=by
  have:=Con.step ht (x:=d) (by omega)
  rwa [leaf_at hd (by omega),if_neg (by omega),insF_t] at this
 have hns:Con (leafL s d) s.length (at' s d):=by
  have:=Con.step ht (x:=s.length) (by omega)
  rwa [leaf_at hd (by omega),if_neg (by omega),insF_d (by omega)] at this
 refine⟨ht,he,?_,?_,?_,by rw[hl];omega⟩
 ·refine parts_grow hs hes ht he (by omega) (fun x=>if x<s.length then x else d) (fun x hx=>if_pos hx) (fun x hx=>?_) (fun x hx=>?_) (fun x hx=>?_) (fun x hx=>?_) (fun x hx=>?_)
  ·show (if x<s.length then x else d)<s.length
   split <;> omega
  ·rw[hl] at hx
   show Con s (if x<s.length then x else d) (if at' (leafL s d) x<s.length then at' (leafL s d) x else d)
   rw[leaf_at hd hx]
   by_cases h1:x=s.length+1
   ·rw[if_pos h1,if_neg (by omega),if_neg (by omega)];exact ps.refl hd
   ·rw[if_neg h1]
    by_cases h2:x=d
    ·rw[h2,insF_t,if_pos hd,if_neg (by omega)];exact ps.refl hd
    ·by_cases h3:x=s.length
     ·rw[h3,insF_d (by omega),if_neg (by omega),if_pos (hs.lt hd)];exact Con.step hs hd
     ·rw[insF_o h2 h3,if_pos (by omega),if_pos (hs.lt (by omega))];exact Con.step hs (by omega)
  ·rw[hl] at hx
   show Con s (if x<s.length then x else d) (if x ^^^ 1<s.length then x ^^^ 1 else d)
   by_cases h1:x<s.length
   ·rw[if_pos h1,if_pos (xor_one_lt hes h1)];exact Con.mate hs hes h1
   ·obtain rfl|rfl:x=s.length∨x=s.length+1:=by omega
    ·rw[n0,if_neg (by omega),if_neg (by omega)];exact ps.refl hd
    ·rw[n1,if_neg (by omega),if_neg (by omega)];exact ps.refl hd
  ·by_cases h2:x=d
   ·rw[h2];exact pt.trans hdn hns
   ·have:=Con.step ht (x:=x) (by omega)
    rwa [leaf_at hd (by omega),if_neg (by omega),insF_o h2 (by omega)] at this
  ·rw[hl] at hx
   show Con (leafL s d) (if x<s.length then x else d) x
   by_cases h1:x<s.length
   ·rw[if_pos h1];exact pt.refl (by omega)
   ·rw[if_neg h1]
    obtain rfl|rfl:x=s.length∨x=s.length+1:=by omega
    ·exact hdn
    ·have:=Con.mate ht he (x:=s.length) (by omega)
     rw[n0] at this
     exact pt.trans hdn this
 ·rw[hr.count ht (fun v hv=>by
   rcases List.mem_append.1 hv with hv|hv
   ·exact after_ne (lists_ne hs) v hv
   ·rw[List.mem_singleton.1 hv];simp),List.length_append,outL_len,lists_count hs]
  simp
 ·rw[(leaf_faces hs hes hd).count (phiL_perm ht he) (after_ne (after_ne (lists_phi_ne hs hes))),outL_len,outL_len,lists_phi hs hes]
  simp
end
section
variable {s : List Nat} (hs : IsPerm s) (hes : s.length % 2 = 0) {d m : Nat} (hm : d ^^^ 1 = m) (hd : d < s.length)
include hs hes hm hd
theorem split_phi {y:Nat} (hy:y<s.length+2):at' (phiL (splitL s d)) y=insF (insF (at' (phiL s)) d s.length) (if at' (phiL s) d=m then s.length else at' (invL (phiL s)) m) (s.length+1) y:=by
 have hml:m<s.length:=by rw[←hm];exact xor_one_lt hes hd
 have hmm:m ^^^ 1=d:=by rw[←hm,xor_one_one]
 have hp:=phiL_perm hs hes
 have hpl:=phiL_length s
 have pd:at' (phiL s) d=at' s m:=by rw[phiL_at hd,hm]
 rw[phiL_at (by rw[splitL_length];exact hy)]
 have n0:s.length ^^^ 1=s.length+1:=xor_add (k:=0) hes (by omega)
 have n1:(s.length+1) ^^^ 1=s.length:=xor_add (k:=1) hes (by omega)
 obtain⟨hi1,hi2⟩:=at_invL hp (y:=m) (by rw[hpl];exact hml)
 obtain⟨q,hq⟩:∃ q,at' (invL (phiL s)) m=q:=⟨_,rfl⟩
 rw[hq,hpl] at hi2
 rw[hq] at hi1 ⊢
 obtain⟨t,ht⟩:∃ t,(if at' (phiL s) d=m then s.length else q)=t:=⟨_,rfl⟩
 rw[ht]
 have hyx:y<s.length→y ^^^ 1<s.length:=fun h=>xor_one_lt hes h
 by_cases h1:y=s.length+1
 ·rw[h1,n1,split_at hs hm hml (by omega),if_neg (by omega),if_pos rfl]
  by_cases h2:at' (phiL s) d=m
  ·rw[if_pos h2] at ht
   rw[←ht,insF_d (by omega),insF_d (by omega),h2]
  ·rw[if_neg h2] at ht
   rw[←ht,insF_d (by omega),insF_o (fun e=>h2 (by rw[←e];exact hi1)) (by omega),hi1]
 by_cases h2:y=s.length
 ·rw[h2,n0,split_at hs hm hml (by omega),if_neg (by omega),if_neg (by omega),if_pos rfl]
  by_cases h3:at' (phiL s) d=m
  ·rw[if_pos h3] at ht
   rw[←ht,insF_t,if_pos (by rw[←pd];exact h3)]
  ·rw[if_neg h3] at ht
   rw[←ht,insF_o (by omega) (by omega),insF_d (by omega),if_neg (by rw[←pd];exact h3),pd]
 have hyl:y<s.length:=by omega
 have hyx:=xor_one_lt hes hyl
 rw[split_at hs hm hml (by omega)]
 by_cases h3:y=d
 ·rw[h3,hm,if_pos rfl]
  by_cases h4:at' (phiL s) d=m
  ·rw[if_pos h4] at ht
   rw[←ht,insF_o (by omega) (by omega),insF_t]
  ·rw[if_neg h4] at ht
   rw[←ht,insF_o (fun e=>h4 (by rw[e];exact hi1)) (by omega),insF_t]
 ·rw[if_neg (show ¬ y ^^^ 1=m from fun e=>h3 (by rw[←xor_one_one y,e,hmm])),if_neg (by omega),if_neg (by omega)]
  have py:at' (phiL s) y=at' s (y ^^^ 1):=phiL_at hyl
  by_cases h5:at' s (y ^^^ 1)=m
  ·rw[if_pos h5]
   have hyq:y=q:=hp.inj (by rw[hpl];exact hyl) (by rw[hpl];exact hi2) (by rw[py,h5,hi1])
   have h6:¬ at' (phiL s) d=m:=fun e=>h3 (hp.inj (by rw[hpl];exact hyl) (by rw[hpl];exact hd) (by rw[py,h5,e]))
   rw[if_neg h6] at ht
   rw[←ht,hyq,insF_t]
  ·rw[if_neg h5]
   have h6:y≠t:=fun e=>by
    by_cases h7:at' (phiL s) d=m
    ·rw[if_pos h7] at ht;omega
    ·rw[if_neg h7] at ht
     rw[←ht] at e
     exact h5 (by rw[←py,e];exact hi1)
   rw[insF_o h6 h1,insF_o h3 h2,py]
theorem split_faces:∃ t,RowsOf (outL (aftF t (s.length+1)) (outL (aftF d s.length) (listsL (phiL s) s.length))) (phiL (splitL s d)):=by
 have hml:m<s.length:=by rw[←hm];exact xor_one_lt hes hd
 have h0:=lists_rowsF (phiL_perm hs hes)
 rw[phiL_length] at h0
 obtain⟨hi1,hi2⟩:=at_invL (phiL_perm hs hes) (y:=m) (by rw[phiL_length];exact hml)
 rw[phiL_length] at hi2
 refine⟨_,((h0.after (t:=d) (d:=s.length) hd (Nat.lt_irrefl _)).after (t:=if at' (phiL s) d=m then s.length else at' (invL (phiL s)) m) (d:=s.length+1) ?_ (by omega)).rows (fun y=>by rw[phiL_length,splitL_length];omega) fun y hy=>?_⟩
 ·split
  ·exact Or.inr rfl
  ·exact Or.inl hi2
 ·rw[phiL_length,splitL_length] at hy
  exact split_phi hs hes hm hd hy
theorem split_grown:GrownL s (splitL s d) 1 0:=by
 have hml:m<s.length:=by rw[←hm];exact xor_one_lt hes hd
 have hr:=split_rows hs hm hml
 have ht:=hr.isPerm
 have hl:=splitL_length s d
 have he:(splitL s d).length % 2=0:=by rw[hl];omega
 have pt:=Con.per ht
 have ps:=Con.per hs
 have n0:s.length ^^^ 1=s.length+1:=xor_add (k:=0) hes (by omega)
 have n1:(s.length+1) ^^^ 1=s.length:=xor_add (k:=1) hes (by omega)
 have stp:∀ x,x<s.length+2→Con (splitL s d) x (at' (splitL s d) x):=fun x hx=>Con.step ht (by rw[hl];exact hx)
 have hmn:Con (splitL s d) m s.length:=by
  have:=stp m (by omega)
  rwa [split_at hs hm hml (by omega),if_pos rfl] at this
 have hmn1:Con (splitL s d) m (s.length+1):=by
  have:=Con.mate ht he (x:=s.length) (by omega)
  rw[n0] at this
  exact pt.trans hmn this
 have hms:Con (splitL s d) m (at' s m):=by
  have:=stp (s.length+1) (by omega)
  rw[split_at hs hm hml (by omega),if_neg (by omega),if_neg (by omega),if_pos rfl] at this
  by_cases h:at' s m=m
  ·rw[h];exact pt.refl (by omega)
  ·rw[if_neg h] at this
   exact pt.trans hmn1 this
 refine⟨ht,he,?_,?_,?_,by rw[hl];omega⟩
 ·refine parts_grow hs hes ht he (by omega) (fun x=>if x<s.length then x else m) (fun x hx=>if_pos hx) (fun x hx=>?_) (fun x hx=>?_) (fun x hx=>?_) (fun x hx=>?_) (fun x hx=>?_)
  ·show (if x<s.length then x else m)<s.length
   split <;> omega
  ·rw[hl] at hx
   show Con s (if x<s.length then x else m) (if at' (splitL s d) x<s.length then at' (splitL s d) x else m)
   rw[split_at hs hm hml hx]
   by_cases h1:x=m
   ·rw[if_pos h1,if_neg (show ¬ s.length<s.length by omega),h1,if_pos hml];exact ps.refl hml
   rw[if_neg h1]
   by_cases h2:x=s.length
   ·rw[if_pos h2,if_neg (by omega),if_pos hml];exact ps.refl hml
   rw[if_neg h2]
   by_cases h3:x=s.length+1
   ·rw[if_pos h3,if_neg (by omega)]
    by_cases h4:at' s m=m
    ·rw[if_pos h4,if_neg (by omega)];exact ps.refl hml
    ·rw[if_neg h4,if_pos (hs.lt hml)];exact Con.step hs hml
   rw[if_neg h3,if_pos (by omega)]
   by_cases h4:at' s x=m
   ·rw[if_pos h4,if_neg (by omega),←h4];exact Con.step hs (by omega)
   ·rw[if_neg h4,if_pos (hs.lt (by omega))];exact Con.step hs (by omega)
  ·rw[hl] at hx
   show Con s (if x<s.length then x else m) (if x ^^^ 1<s.length then x ^^^ 1 else m)
   by_cases h1:x<s.length
   ·rw[if_pos h1,if_pos (xor_one_lt hes h1)];exact Con.mate hs hes h1
   ·obtain rfl|rfl:x=s.length∨x=s.length+1:=by omega
    ·rw[n0,if_neg (by omega),if_neg (by omega)];exact ps.refl hml
    ·rw[n1,if_neg (by omega),if_neg (by omega)];exact ps.refl hml
  ·by_cases h2:x=m
   ·rw[h2];exact hms
   ·have:=stp x (by omega)
    rw[split_at hs hm hml (by omega),if_neg h2,if_neg (by omega),if_neg (by omega)] at this
    by_cases h4:at' s x=m
    ·rw[if_pos h4] at this
     rw[h4]
     exact pt.trans this (pt.symm hmn1)
    ·rwa [if_neg h4] at this
  ·rw[hl] at hx
   show Con (splitL s d) (if x<s.length then x else m) x
   by_cases h1:x<s.length
   ·rw[if_pos h1];exact pt.refl (by omega)
   ·rw[if_neg h1]
    obtain rfl|rfl:x=s.length∨x=s.length+1:=by omega
    ·exact hmn
    ·exact hmn1
 ·rw[hr.count ht (fun v hv=>by
   rcases List.mem_append.1 hv with hv|hv
   ·unfold outL at hv
    obtain⟨u,hu,rfl⟩:=List.mem_map.1 hv
    obtain⟨u0,hu0,rfl⟩:=List.mem_map.1 hu
    obtain⟨x,hx⟩:=List.exists_mem_of_ne_nil u0 (lists_ne hs u0 hu0)
    by_cases hxm:x=m
    ·refine List.ne_nil_of_mem (a:=s.length+1) (List.mem_flatMap.2 ⟨s.length+1,List.mem_flatMap.2 ⟨x,hx,by unfold aftF;rw[if_pos hxm];simp⟩,by unfold witF;rw[if_neg (by omega)];simp⟩)
    ·refine List.ne_nil_of_mem (a:=x) (List.mem_flatMap.2 ⟨x,List.mem_flatMap.2 ⟨x,hx,by unfold aftF;rw[if_neg hxm];simp⟩,by unfold witF;rw[if_neg hxm];simp⟩)
   ·rw[List.mem_singleton.1 hv];simp),List.length_append,outL_len,outL_len,lists_count hs]
  simp
 ·obtain⟨t,hf⟩:=split_faces hs hes hm hd
  rw[hf.count (phiL_perm ht he) (after_ne (after_ne (lists_phi_ne hs hes))),outL_len,outL_len,lists_phi hs hes]
  simp
end
end
end Go.Proofs.YtklkgicjfnbndaaGreat
