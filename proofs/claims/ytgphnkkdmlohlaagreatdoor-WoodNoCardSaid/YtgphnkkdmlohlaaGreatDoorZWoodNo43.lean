/- parquetryref14.flip: the edge of a dart joins the other two of its two triangles, if they aren't joined yet. -/
import Derived.Test.YtgphnkkdmlohlaaGreatDoorZWoodNo29
import Derived.Test.YtgphnkkdmlohlaaGreatDoorZWoodNo27
import Derived.Test.YtgphnkkdmlohlaaGreatDoorZWoodNo39
import Derived.Test.YtgphnkkdmlohlaaGreatDoorZWoodNo32
namespace Go.Proofs.YtgphnkkdmlohlaaGreatDoor
section
open Go.RowKit
set_option linter.unusedVariables false
set_option linter.unusedSimpArgs false
def RetFl (R:Reg) (B:Nat) (w:World) (n:Nat) (root:Int) (e:Ending) (w':World):Prop:=
 ∃ a c t,TriS t∧t.length=n∧e=.returned (refV (.slice a n c) root 0)∧Ev R w R w'∧OwnI R B 3 w' (.slice a n c) (toI t)
theorem flip14_eq {s:List Nat} (hs:IsPerm s) (hes:s.length % 2=0) {d m pd pa pm pb:Nat} (h:FlipD s d m pd pa pm pb):
  (((((s.set (at' (invL s) d) (at' s d)).set (at' (invL s) m) (at' s m)).set (pd ^^^ 1) d).set d pa).set (pm ^^^ 1) m).set m pb=flipL s d:=by
 obtain⟨n1,n2,n3,n4,n5,n6,n7,n8,n9,n10,n11,n12,n13,n14,n15⟩:=FlipD.ne h
 have x1:∀ {a b},a≠b→a ^^^ 1≠b ^^^ 1:=fun {a b} hab e=>hab (by rw[←xor_one_one a,e,xor_one_one])
 have sdm:at' s d=pm:=by rw[←h.fm,phiL_at h.ml,h.md]
 have smd:at' s m=pd:=by rw[←h.fd,phiL_at h.dl,h.dm]
 have bd:=(FlipD.back hs hes h.pal h.fpa).1
 have bm:=(FlipD.back hs hes h.pbl h.fpb).1
 have hl:=flipL_length s d
 rw[bd,bm,sdm,smd]
 refine List.ext_getElem (by simp[hl]) fun y h1 h2=>?_
 rw[←at'_eq h1,←at'_eq h2]
 have hy:y<s.length:=by rw[hl] at h2;exact h2
 rw[FlipD.at_ hs hes h hy]
 rw[at'_set (by simpa using h.ml),at'_set (by simpa using xor_one_lt hes h.pml),at'_set (by simpa using h.dl),at'_set (by simpa using xor_one_lt hes h.pdl),at'_set (by simpa using xor_one_lt hes h.pbl),at'_set (by simpa using xor_one_lt hes h.pal)]
 have q1:m≠pm ^^^ 1:=by rw[←h.dm];exact x1 n4
 have q2:d≠pd ^^^ 1:=by rw[←h.md];exact x1 (Ne.symm n7)
 have q3:pa ^^^ 1≠pb ^^^ 1:=x1 n12
 by_cases c1:y=pm ^^^ 1
 ·rw[if_pos c1,if_neg (by rw[c1];exact q1),if_pos c1.symm]
 rw[if_neg c1]
 by_cases c2:y=m
 ·rw[if_pos c2,if_pos c2.symm]
 rw[if_neg c2,if_neg (Ne.symm c2),if_neg (Ne.symm c1)]
 by_cases c3:y=pd ^^^ 1
 ·rw[if_pos c3,if_neg (by rw[c3];exact q2),if_pos c3.symm]
 rw[if_neg c3]
 by_cases c4:y=d
 ·rw[if_pos c4,if_pos c4.symm]
 rw[if_neg c4,if_neg (Ne.symm c4),if_neg (Ne.symm c3)]
 by_cases c5:y=pa ^^^ 1
 ·rw[if_pos c5,if_neg (by rw[c5];exact Ne.symm q3),if_pos c5.symm]
 rw[if_neg c5]
 by_cases c6:y=pb ^^^ 1
 ·rw[if_pos c6,if_pos c6.symm]
 rw[if_neg c6,if_neg (Ne.symm c6),if_neg (Ne.symm c5)]
set_option maxRecDepth 100000 in
set_option maxHeartbeats 3000000 in
theorem r14flip_any (R:Reg) (B:Nat) (w:World) (hI:Inv R w) (v:Value) (s:List Nat) (root:Int) (hv:OwnI R B 3 w v (toI s)) (hB:B≤w.heap.size) (hT:TriS s) (hn:s.length≤1000) (d:Nat) (hd:d<s.length):
  Calls Tryz.prog 29 #[refV v root 0,.int .i64 (d:Int)] w (RetFl R B w s.length root):=by
 obtain⟨a0,c0,rfl,_⟩:=hv.ints.open
 rw[toI_length] at hv ⊢
 have hvf:=hv.free
 unfold refV
 have hS:=hT.perm
 have he:=hT.even
 have hph:=phiL_perm hS he
 have hpl:=phiL_length s
 have hml:=xor_one_lt he hd
 obtain⟨m,pd,pa,pm,pb,hf⟩:=hT.flipD hd
 have hfl:=hT.flip hd
 rw[hf.dm,hf.fd,hf.fpd,hf.fm,hf.fpm] at hfl
 have hfq:=flip14_eq hS he hf
 have hdm:=hf.dm
 have HPhi:=Lib.hid (fun w' (hee:Ev R w R w')=>rphi_any R w' hee.inv _ s root 0 (hvf.ev hee) (by omega) he)
 have HNm:=Lib.hid (fun w' (hee:Ev R w R w')=>rnames_any R w' hee.inv _ s (hvf.ev hee) hS (by omega))
 have HIv:=Lib.hid (fun w' (hee:Ev R w R w')=>rinverse_any R w' hee.inv _ s (hvf.ev hee) hS (by omega))
 have HMd:=Lib.hid (fun w'=>rmate_any w' d (by omega))
 rw[hdm] at HMd
 unfold refV at HPhi
 have he1:Ev R w R (w.alloc (.cells #[.slice a0 s.length c0,.int .i64 root,.int .i64 0] 27)):=(Ev.refl hI).alloc _
 have he2:=he1.alloc (.cells #[.slice none 0 0,.int .i64 0,.int .i64 0] 27)
 have hb1:((w.alloc (.cells #[.slice a0 s.length c0,.int .i64 root,.int .i64 0] 27)).alloc (.cells #[.slice none 0 0,.int .i64 0,.int .i64 0] 27)).heap[w.heap.size]?=some (.cells #[.slice a0 s.length c0,.int .i64 root,.int .i64 0] 27 (0,0)):=by
  rw[Below.heap_alloc _ _ _ (by simp)]
  exact heap_alloc_new w _
 have hb2:((w.alloc (.cells #[.slice a0 s.length c0,.int .i64 root,.int .i64 0] 27)).alloc (.cells #[.slice none 0 0,.int .i64 0,.int .i64 0] 27)).heap[w.heap.size+1]?=some (.cells #[.slice none 0 0,.int .i64 0,.int .i64 0] 27 (0,0)):=by
  have:=heap_alloc_new (w.alloc (.cells #[.slice a0 s.length c0,.int .i64 root,.int .i64 0] 27)) (.cells #[.slice none 0 0,.int .i64 0,.int .i64 0] 27)
  simpa using this
 have hn1:R w.heap.size=none:=hI.none_of_ge (Nat.le_refl _)
 have hn2:R (w.heap.size+1)=none:=hI.none_of_ge (by omega)
 have HV:=Lib.hid hv
 have HVf:=Lib.hid hvf
 have HT:=Lib.hid hT
 have HBw:=Lib.hid hB
 have HFl:=Lib.hid hfl
 have HFq:=Lib.hid hfq
 have HF:=Lib.hid hf
 have HAt:=Lib.hid (show at' (phiL s) d=pd∧at' (phiL s) pd=pa∧at' (phiL s) m=pm∧at' (phiL s) pm=pb from⟨hf.fd,hf.fpd,hf.fm,hf.fpm⟩)
 have hdl:=hf.dl
 have hmm:=hf.ml
 have hpdl:=hf.pdl
 have hpal:=hf.pal
 have hpml:=hf.pml
 have hpbl:=hf.pbl
 clear hI hv hvf hS he hph hT hfl hfq hf he1 hdm hml hB hd
 go_enter Tryz.func29,Tryz.ntmps29
 go_upto_region 1 with fail
 obtain⟨w2,hw2⟩:∃ w2,w2=(w.alloc (.cells #[.slice a0 s.length c0,.int .i64 root,.int .i64 0] 27)).alloc (.cells #[.slice none 0 0,.int .i64 0,.int .i64 0] 27):=⟨_,rfl⟩
 rw[←hw2] at he2 hb1 hb2 ⊢
 have HB1:=Lib.hid (fun w' (h:Ev R w2 R w')=>boxC_cells (h.boxC3 hb1 hn1).1)
 have HB2:=Lib.hid (fun w' (h:Ev R w2 R w')=>h.boxC3 hb2 hn2)
 have HE2:=Lib.hid he2
 have HI2:=Lib.hid he2.inv
 have HSz2:=Lib.hid (show w2.heap.size=w.heap.size+2 by rw[hw2];simp)
 obtain⟨x0,x1,x2,_⟩:=HB1.out _ (Ev.refl he2.inv)
 clear hw2 he2 hb1 hb2 hn1 hn2
 obtain⟨n,hnn⟩:∃ n,s.length=n:=⟨_,rfl⟩
 have HN:=Lib.hid hnn
 rw[hnn] at hn hdl hmm hpdl hpal hpml hpbl HPhi HV HVf HB1 x0 HNm HIv hpl ⊢
 clear hnn
 go_wp2_with fail
 refine (HPhi.out _ HE2.out).mono ?_
 rintro z w3 ⟨v3,rfl,he3,ho3⟩
 obtain⟨a3,c3,rfl,_⟩:=ho3.ints.open
 rw[toI_length,hpl] at ho3 ⊢
 have HE3:=Lib.hid ((Ev.refl HI2.out).trans he3)
 have HO3:=Lib.hid ho3
 clear he3 ho3 x0 x1 x2
 go_wp2_with fail
 refine (HMd.out _).mono ?_
 rintro z w3' ⟨rfl,rfl⟩
 obtain⟨g3,rfl,_,_,hg1,_⟩:=HO3.out.headAt (by rw[toI_length];exact hpl) hdl
 obtain⟨g3',e3',_,_,hg2,_⟩:=HO3.out.headAt (by rw[toI_length];exact hpl) hpdl
 cases e3'
 obtain⟨g3',e3',_,_,hg3,_⟩:=HO3.out.headAt (by rw[toI_length];exact hpl) hmm
 cases e3'
 obtain⟨g3',e3',_,_,hg4,_⟩:=HO3.out.headAt (by rw[toI_length];exact hpl) hpml
 cases e3'
 rw[toI_nth] at hg1 hg2 hg3 hg4
 rw[HAt.out.1] at hg1
 rw[HAt.out.2.1] at hg2
 rw[HAt.out.2.2.1] at hg3
 rw[HAt.out.2.2.2] at hg4
 obtain⟨x0,x1,x2,_⟩:=HB1.out _ HE3.out
 go_wp2_with fail
 go_region
 all_goals go_wp2_with fail
 first|refine (HNm.out _ (HE2.out.trans HE3.out).drew).mono ?_|refine (HNm.out _ (HE2.out.trans HE3.out).drew.drew).mono ?_
 rintro z w4 ⟨v4,rfl,he4,ho4⟩
 obtain⟨a4,c4,rfl,_⟩:=ho4.ints.open
 have hnl:(namesL s).length=n:=by rw[namesL_length,HN.out]
 rw[hnl] at ho4 ⊢
 have HE4:=Lib.hid (HE3.out.drew.trans he4)
 have HO4:=Lib.hid ho4
 have HO3:=Lib.hid (HO3.out.drew.ev he4)
 have HNl:=Lib.hid hnl
 clear he4 ho4 hg1 hg2 hg3 hg4 x0 x1 x2
 obtain⟨x0,x1,x2,_⟩:=HB1.out _ HE4.out
 obtain⟨g4,rfl,_,_,ha1,_⟩:=HO4.out.headAt hnl hpal
 obtain⟨g4',e4',_,_,ha2,_⟩:=HO4.out.headAt hnl hpbl
 cases e4'
 obtain⟨na,hna⟩:∃ x,nth (namesL s) pa=x:=⟨_,rfl⟩
 obtain⟨nb,hnb⟩:∃ x,nth (namesL s) pb=x:=⟨_,rfl⟩
 rw[hna] at ha1
 rw[hnb] at ha2
 have HNa:=Lib.hid hna
 have HNb:=Lib.hid hnb
 clear hna hnb hnl
 by_cases hab:na=nb
 ·have hbt:(na == nb)=true:=beq_iff_eq.2 hab
  obtain⟨yb,yn⟩:=HB2.out _ HE4.out
  obtain⟨y0,y1,y2,yf⟩:=boxC_cells yb
  have hf0:=yf 0
  have hf1:=yf 1
  have hf2:=yf 2
  have HYb:=Lib.hid yb
  have HYn:=Lib.hid yn
  clear yb yn yf hab
  go_wp2_with fail
  go_region
  all_goals go_wp2_with fail
  have hb3:=set3 (x:=.slice a0 n c0) (y:=.int .i64 root) (z:=.int .i64 0) HYb.out
  obtain⟨u0,u1,u2,_⟩:=boxC_cells (w:=(((w4.setCell ⟨w.heap.size+1,0,none⟩ (.slice a0 n c0)).setCell ⟨w.heap.size+1,1,none⟩ (.int .i64 root)).setCell ⟨w.heap.size+1,2,none⟩ (.int .i64 0)).drew) hb3
  have hE:=((((HE2.out.trans HE4.out).setCell (p:=⟨w.heap.size+1,0,none⟩) (by simp) HYn.out (.slice a0 n c0)).setCell (p:=⟨w.heap.size+1,1,none⟩) (by simp) HYn.out (.int .i64 root)).setCell (p:=⟨w.heap.size+1,2,none⟩) (by simp) HYn.out (.int .i64 0)).drew
  rw[HN.out]
  refine bodyPost_ret (v:=refV (.slice a0 n c0) root 0) ?_ rfl ⟨a0,c0,s,HT.out,HN.out,rfl,hE,HV.out.ev hE⟩
  simp[results,Tryz.results29,go_sem,u0,u1,u2,refV]
 ·have hbf:(na == nb)=false:=beq_eq_false_iff_ne.2 hab
  have HAb:=Lib.hid hab
  clear hab
  go_wp2_with fail
  go_region
  all_goals go_wp2_with fail
  go_loopg [49] n (fun g v49 wr=>∃ i:Nat,i≤n∧n-i≤g∧v49=.int .i64 (i:Int)∧Ev R w4 R wr∧∀ x,x<i→¬ (nth (namesL s) x=na∧nth (namesL s) (x ^^^ 1)=nb))
  case atStart=>exact⟨0,Nat.zero_le _,by omega,rfl,(Ev.refl HE4.out.inv).drew,fun x hx=>absurd hx (Nat.not_lt_zero _)⟩
  case round=>
   obtain⟨i,hin,hg,rfl,hev,hno⟩:=hrel
   have HEr:=Lib.hid (HE4.out.trans hev)
   have HNo:=Lib.hid hno
   have HO3r:=Lib.hid (HO3.out.ev hev)
   have HO4r:=Lib.hid (HO4.out.ev hev)
   clear x0 x1 x2
   obtain⟨x0,x1,x2,_⟩:=HB1.out _ HEr.out
   have HEv:=Lib.hid hev
   clear hev hno
   by_cases hi:i<n
   ·as_aux_lemma=>
     obtain⟨xm,hxm⟩:∃ x,i ^^^ 1=x:=⟨_,rfl⟩
     have hxl:xm<n:=by rw[←hxm];exact xor_one_lt (by rw[←HN.out];exact HT.out.even) hi
     obtain⟨_,e1,_,_,q1,_⟩:=HO4r.out.headAt HNl.out hi
     cases e1
     obtain⟨_,e1,_,_,q2,_⟩:=HO4r.out.headAt HNl.out hxl
     cases e1
     obtain⟨_,e1,_,_,q3,_⟩:=HO4r.out.headAt HNl.out hpal
     cases e1
     obtain⟨_,e1,_,_,q4,_⟩:=HO4r.out.headAt HNl.out hpbl
     cases e1
     rw[HNa.out] at q3
     rw[HNb.out] at q4
     obtain⟨u1,hu1⟩:∃ x,nth (namesL s) i=x:=⟨_,rfl⟩
     obtain⟨u2,hu2⟩:∃ x,nth (namesL s) xm=x:=⟨_,rfl⟩
     rw[hu1] at q1
     rw[hu2] at q2
     have hMx:=rmate_any wr.drew i (by omega)
     rw[hxm] at hMx
     have HMx:=Lib.hid hMx
     have HXm:=Lib.hid hxm
     have HU1:=Lib.hid hu1
     have HU2:=Lib.hid hu2
     have HO4p:=HO4r.out
     have hs1:IntKind.i64.wrap ((i:Int)+1)=((i+1:Nat):Int):=by rw[show (i:Int)+1=((i+1:Nat):Int) by omega];exact IntWalk.i64_in _ (by omega)
     clear hxm hu1 hu2 hMx HO4p
     by_cases h1:u1=na
     ·have t1:(u1 == na)=true:=beq_iff_eq.2 h1
      have H1:=Lib.hid h1
      clear h1
      by_cases h2:u2=nb
      ·have t2:(u2 == nb)=true:=beq_iff_eq.2 h2
       have H2:=Lib.hid h2
       clear h2
       obtain⟨yb,yn⟩:=HB2.out _ HEr.out
       obtain⟨y0,y1,y2,yf⟩:=boxC_cells yb
       have hf0:=yf 0
       have hf1:=yf 1
       have hf2:=yf 2
       have HYb:=Lib.hid yb
       have HYn:=Lib.hid yn
       clear yb yn yf
       go_wp2_with fail
       refine wp_region_held_drew (S:=(fun w':World=>w'.cell? ⟨g4,i,none⟩=some (.int .i64 u1)∧w'.cell? ⟨g4,xm,none⟩=some (.int .i64 u2)∧w'.cell? ⟨g4,pa,none⟩=some (.int .i64 na)∧w'.cell? ⟨g4,pb,none⟩=some (.int .i64 nb))) (by kernel_rfl) ⟨q1,q2,q3,q4⟩ (fun hHeld=>?_)
       refine tk 0 (v:=?ftt_0) ?gtt_0 ?_
       case gtt_0=>(intro w' ⟨s0,s1,s2,s3⟩;go_simp;try with_reducible rfl)
       try simp only[Act.put,rd]
       refine tk 1 (v:=?ftt_1) ?gtt_1 ?_
       case gtt_1=>(intro w' ⟨s0,s1,s2,s3⟩;go_simp;try with_reducible rfl)
       try simp only[Act.put,rd]
       refine tk 2 (v:=?ftt_2) ?gtt_2 ?_
       case gtt_2=>(intro w' ⟨s0,s1,s2,s3⟩;go_simp;try with_reducible rfl)
       try simp only[Act.put,rd]
       refine tk 3 (v:=?ftt_3) ?gtt_3 ?_
       case gtt_3=>(intro w' ⟨s0,s1,s2,s3⟩;go_simp;try with_reducible rfl)
       try simp only[Act.put,rd]
       refine tk 4 (v:=?ftt_4) ?gtt_4 ?_
       case gtt_4=>(intro w' ⟨s0,s1,s2,s3⟩;go_simp;try with_reducible rfl)
       try simp only[Act.put,rd]
       refine tk 5 (v:=?ftt_5) ?gtt_5 ?_
       case gtt_5=>(intro w' ⟨s0,s1,s2,s3⟩;go_simp;try with_reducible rfl)
       try simp only[Act.put,rd]
       refine tk 6 (v:=?ftt_6) ?gtt_6 ?_
       case gtt_6=>(intro w' ⟨s0,s1,s2,s3⟩;go_simp;try with_reducible rfl)
       try simp only[Act.put,rd]
       refine tk 7 (v:=?ftt_7) ?gtt_7 ?_
       case gtt_7=>(intro w' ⟨s0,s1,s2,s3⟩;go_simp;try with_reducible rfl)
       try simp only[Act.put,rd]
       refine tk 8 (v:=(.bool true)) ?gtt_8 ?_
       case gtt_8=>(intro w' ⟨s0,s1,s2,s3⟩;go_simp;try with_reducible rfl)
       try simp only[Act.put,rd]
       refine tk 9 (v:=(.bool true)) ?gtt_9 ?_
       case gtt_9=>(intro w' ⟨s0,s1,s2,s3⟩;go_simp;try with_reducible rfl)
       try simp only[Act.put,rd]
       refine tk 10 (v:=?ftt_10) ?gtt_10 ?_
       case gtt_10=>(intro w' ⟨s0,s1,s2,s3⟩;go_simp;try with_reducible rfl)
       try simp only[Act.put,rd]
       refine tk 11 (v:=?ftt_11) ?gtt_11 ?_
       case gtt_11=>(intro w' ⟨s0,s1,s2,s3⟩;go_simp;try with_reducible rfl)
       try simp only[Act.put,rd]
       refine tk 15 (v:=?ftt_15) ?gtt_15 ?_
       case gtt_15=>(intro w' ⟨s0,s1,s2,s3⟩;go_simp;try with_reducible rfl)
       try simp only[Act.put,rd]
       refine tk 16 (v:=?ftt_16) ?gtt_16 ?_
       case gtt_16=>(intro w' ⟨s0,s1,s2,s3⟩;go_simp;try with_reducible rfl)
       try simp only[Act.put,rd]
       refine tk 17 (v:=?ftt_17) ?gtt_17 ?_
       case gtt_17=>(intro w' ⟨s0,s1,s2,s3⟩;go_simp;try with_reducible rfl)
       try simp only[Act.put,rd]
       refine tk 18 (v:=?ftt_18) ?gtt_18 ?_
       case gtt_18=>(intro w' ⟨s0,s1,s2,s3⟩;go_simp;try with_reducible rfl)
       try simp only[Act.put,rd]
       refine nx 12 fun K hK=>?_
       go_simp
       refine HMx.out.mono ?_
       rintro z w5 ⟨rfl,rfl⟩
       go_simp
       refine hK.out _ _ ⟨q1,q2,q3,q4⟩ (fun hHeld2=>?_)
       clear hHeld
       refine tk 13 (v:=?ftt_13) ?gtt_13 ?_
       case gtt_13=>(intro w' ⟨s0,s1,s2,s3⟩;go_simp;try with_reducible rfl)
       try simp only[Act.put,rd]
       refine tk 14 (v:=?ftt_14) ?gtt_14 ?_
       case gtt_14=>(intro w' ⟨s0,s1,s2,s3⟩;go_simp;try with_reducible rfl)
       try simp only[Act.put,rd]
       refine tk 19 (v:=(.bool true)) ?gtt_19 ?_
       case gtt_19=>(intro w' ⟨s0,s1,s2,s3⟩;go_simp;try with_reducible rfl)
       try simp only[Act.put,rd]
       refine tk 20 (v:=(.bool true)) ?gtt_20 ?_
       case gtt_20=>(intro w' ⟨s0,s1,s2,s3⟩;go_simp;try with_reducible rfl)
       try simp only[Act.put,rd]
       refine wpAnyH_done (by kernel_rfl) ?_ _
       clear hHeld2
       go_wp2_with fail
       have hb3:=set3 (x:=.slice a0 n c0) (y:=.int .i64 root) (z:=.int .i64 0) HYb.out
       obtain⟨u0,u1,u2,_⟩:=boxC_cells (w:=(((wr.setCell ⟨w.heap.size+1,0,none⟩ (.slice a0 n c0)).setCell ⟨w.heap.size+1,1,none⟩ (.int .i64 root)).setCell ⟨w.heap.size+1,2,none⟩ (.int .i64 0)).drew) hb3
       have hE:=((((HE2.out.trans HEr.out).setCell (p:=⟨w.heap.size+1,0,none⟩) (by simp) HYn.out (.slice a0 n c0)).setCell (p:=⟨w.heap.size+1,1,none⟩) (by simp) HYn.out (.int .i64 root)).setCell (p:=⟨w.heap.size+1,2,none⟩) (by simp) HYn.out (.int .i64 0)).drew
       rw[HN.out]
       refine bodyPost_ret (v:=refV (.slice a0 n c0) root 0) ?_ rfl ⟨a0,c0,s,HT.out,HN.out,rfl,hE,HV.out.ev hE⟩
       simp[results,Tryz.results29,go_sem,u0,u1,u2,refV]
      ·have t2:(u2 == nb)=false:=beq_eq_false_iff_ne.2 h2
       have H2:=Lib.hid h2
       clear h2
       go_wp2_with fail
       refine wp_region_held_drew (S:=(fun w':World=>w'.cell? ⟨g4,i,none⟩=some (.int .i64 u1)∧w'.cell? ⟨g4,xm,none⟩=some (.int .i64 u2)∧w'.cell? ⟨g4,pa,none⟩=some (.int .i64 na)∧w'.cell? ⟨g4,pb,none⟩=some (.int .i64 nb))) (by kernel_rfl) ⟨q1,q2,q3,q4⟩ (fun hHeld=>?_)
       refine tk 0 (v:=?ftf_0) ?gtf_0 ?_
       case gtf_0=>(intro w' ⟨s0,s1,s2,s3⟩;go_simp;try with_reducible rfl)
       try simp only[Act.put,rd]
       refine tk 1 (v:=?ftf_1) ?gtf_1 ?_
       case gtf_1=>(intro w' ⟨s0,s1,s2,s3⟩;go_simp;try with_reducible rfl)
       try simp only[Act.put,rd]
       refine tk 2 (v:=?ftf_2) ?gtf_2 ?_
       case gtf_2=>(intro w' ⟨s0,s1,s2,s3⟩;go_simp;try with_reducible rfl)
       try simp only[Act.put,rd]
       refine tk 3 (v:=?ftf_3) ?gtf_3 ?_
       case gtf_3=>(intro w' ⟨s0,s1,s2,s3⟩;go_simp;try with_reducible rfl)
       try simp only[Act.put,rd]
       refine tk 4 (v:=?ftf_4) ?gtf_4 ?_
       case gtf_4=>(intro w' ⟨s0,s1,s2,s3⟩;go_simp;try with_reducible rfl)
       try simp only[Act.put,rd]
       refine tk 5 (v:=?ftf_5) ?gtf_5 ?_
       case gtf_5=>(intro w' ⟨s0,s1,s2,s3⟩;go_simp;try with_reducible rfl)
       try simp only[Act.put,rd]
       refine tk 6 (v:=?ftf_6) ?gtf_6 ?_
       case gtf_6=>(intro w' ⟨s0,s1,s2,s3⟩;go_simp;try with_reducible rfl)
       try simp only[Act.put,rd]
       refine tk 7 (v:=?ftf_7) ?gtf_7 ?_
       case gtf_7=>(intro w' ⟨s0,s1,s2,s3⟩;go_simp;try with_reducible rfl)
       try simp only[Act.put,rd]
       refine tk 8 (v:=(.bool true)) ?gtf_8 ?_
       case gtf_8=>(intro w' ⟨s0,s1,s2,s3⟩;go_simp;try with_reducible rfl)
       try simp only[Act.put,rd]
       refine tk 9 (v:=(.bool true)) ?gtf_9 ?_
       case gtf_9=>(intro w' ⟨s0,s1,s2,s3⟩;go_simp;try with_reducible rfl)
       try simp only[Act.put,rd]
       refine tk 10 (v:=?ftf_10) ?gtf_10 ?_
       case gtf_10=>(intro w' ⟨s0,s1,s2,s3⟩;go_simp;try with_reducible rfl)
       try simp only[Act.put,rd]
       refine tk 11 (v:=?ftf_11) ?gtf_11 ?_
       case gtf_11=>(intro w' ⟨s0,s1,s2,s3⟩;go_simp;try with_reducible rfl)
       try simp only[Act.put,rd]
       refine tk 15 (v:=?ftf_15) ?gtf_15 ?_
       case gtf_15=>(intro w' ⟨s0,s1,s2,s3⟩;go_simp;try with_reducible rfl)
       try simp only[Act.put,rd]
       refine tk 16 (v:=?ftf_16) ?gtf_16 ?_
       case gtf_16=>(intro w' ⟨s0,s1,s2,s3⟩;go_simp;try with_reducible rfl)
       try simp only[Act.put,rd]
       refine tk 17 (v:=?ftf_17) ?gtf_17 ?_
       case gtf_17=>(intro w' ⟨s0,s1,s2,s3⟩;go_simp;try with_reducible rfl)
       try simp only[Act.put,rd]
       refine tk 18 (v:=?ftf_18) ?gtf_18 ?_
       case gtf_18=>(intro w' ⟨s0,s1,s2,s3⟩;go_simp;try with_reducible rfl)
       try simp only[Act.put,rd]
       refine nx 12 fun K hK=>?_
       go_simp
       refine HMx.out.mono ?_
       rintro z w5 ⟨rfl,rfl⟩
       go_simp
       refine hK.out _ _ ⟨q1,q2,q3,q4⟩ (fun hHeld2=>?_)
       clear hHeld
       refine tk 13 (v:=?ftf_13) ?gtf_13 ?_
       case gtf_13=>(intro w' ⟨s0,s1,s2,s3⟩;go_simp;try with_reducible rfl)
       try simp only[Act.put,rd]
       refine tk 14 (v:=?ftf_14) ?gtf_14 ?_
       case gtf_14=>(intro w' ⟨s0,s1,s2,s3⟩;go_simp;try with_reducible rfl)
       try simp only[Act.put,rd]
       refine tk 19 (v:=(.bool false)) ?gtf_19 ?_
       case gtf_19=>(intro w' ⟨s0,s1,s2,s3⟩;go_simp;try with_reducible rfl)
       try simp only[Act.put,rd]
       refine tk 20 (v:=(.bool false)) ?gtf_20 ?_
       case gtf_20=>(intro w' ⟨s0,s1,s2,s3⟩;go_simp;try with_reducible rfl)
       try simp only[Act.put,rd]
       refine wpAnyH_done (by kernel_rfl) ?_ _
       clear hHeld2
       go_wp2_with fail
       go_roundg (n-(i+1))
       case measure=>omega
       case rel=>exact⟨i+1,by omega,by omega,by go_num,HEv.out.drew,fun x hx he=>by
        rcases (by omega:x<i∨x=i) with h|h
        ·exact HNo.out x h he
        ·rw[h,HXm.out,HU2.out] at he;exact H2.out he.2⟩
     ·have t1:(u1 == na)=false:=beq_eq_false_iff_ne.2 h1
      have H1:=Lib.hid h1
      clear h1
      go_wp2_with fail
      refine wp_region_held_drew (S:=(fun w':World=>w'.cell? ⟨g4,i,none⟩=some (.int .i64 u1)∧w'.cell? ⟨g4,xm,none⟩=some (.int .i64 u2)∧w'.cell? ⟨g4,pa,none⟩=some (.int .i64 na)∧w'.cell? ⟨g4,pb,none⟩=some (.int .i64 nb))) (by kernel_rfl) ⟨q1,q2,q3,q4⟩ (fun hHeld=>?_)
      refine tk 0 (v:=?fff_0) ?gff_0 ?_
      case gff_0=>(intro w' ⟨s0,s1,s2,s3⟩;go_simp;try with_reducible rfl)
      try simp only[Act.put,rd]
      refine tk 1 (v:=?fff_1) ?gff_1 ?_
      case gff_1=>(intro w' ⟨s0,s1,s2,s3⟩;go_simp;try with_reducible rfl)
      try simp only[Act.put,rd]
      refine tk 2 (v:=?fff_2) ?gff_2 ?_
      case gff_2=>(intro w' ⟨s0,s1,s2,s3⟩;go_simp;try with_reducible rfl)
      try simp only[Act.put,rd]
      refine tk 3 (v:=?fff_3) ?gff_3 ?_
      case gff_3=>(intro w' ⟨s0,s1,s2,s3⟩;go_simp;try with_reducible rfl)
      try simp only[Act.put,rd]
      refine tk 4 (v:=?fff_4) ?gff_4 ?_
      case gff_4=>(intro w' ⟨s0,s1,s2,s3⟩;go_simp;try with_reducible rfl)
      try simp only[Act.put,rd]
      refine tk 5 (v:=?fff_5) ?gff_5 ?_
      case gff_5=>(intro w' ⟨s0,s1,s2,s3⟩;go_simp;try with_reducible rfl)
      try simp only[Act.put,rd]
      refine tk 6 (v:=?fff_6) ?gff_6 ?_
      case gff_6=>(intro w' ⟨s0,s1,s2,s3⟩;go_simp;try with_reducible rfl)
      try simp only[Act.put,rd]
      refine tk 7 (v:=?fff_7) ?gff_7 ?_
      case gff_7=>(intro w' ⟨s0,s1,s2,s3⟩;go_simp;try with_reducible rfl)
      try simp only[Act.put,rd]
      refine tk 8 (v:=(.bool false)) ?gff_8 ?_
      case gff_8=>(intro w' ⟨s0,s1,s2,s3⟩;go_simp;try with_reducible rfl)
      try simp only[Act.put,rd]
      refine tk 9 (v:=(.bool false)) ?gff_9 ?_
      case gff_9=>(intro w' ⟨s0,s1,s2,s3⟩;go_simp;try with_reducible rfl)
      try simp only[Act.put,rd]
      refine sk 10 ?_
      try simp only[Act.put,rd]
      refine sk 11 ?_
      try simp only[Act.put,rd]
      refine sk 12 ?_
      try simp only[Act.put,rd]
      refine sk 13 ?_
      try simp only[Act.put,rd]
      refine sk 14 ?_
      try simp only[Act.put,rd]
      refine sk 15 ?_
      try simp only[Act.put,rd]
      refine sk 16 ?_
      try simp only[Act.put,rd]
      refine sk 17 ?_
      try simp only[Act.put,rd]
      refine sk 18 ?_
      try simp only[Act.put,rd]
      refine sk 19 ?_
      try simp only[Act.put,rd]
      refine tk 20 (v:=(.bool false)) ?gff_20 ?_
      case gff_20=>(intro w' ⟨s0,s1,s2,s3⟩;go_simp;try with_reducible rfl)
      try simp only[Act.put,rd]
      refine wpAnyH_done (by kernel_rfl) ?_ _
      clear hHeld
      go_wp2_with fail
      go_roundg (n-(i+1))
      case measure=>omega
      case rel=>exact⟨i+1,by omega,by omega,by go_num,HEv.out.drew,fun x hx he=>by
       rcases (by omega:x<i∨x=i) with h|h
       ·exact HNo.out x h he
       ·rw[h,HU1.out] at he;exact H1.out he.1⟩
   ·have hi2:¬ (i:Int)<(n:Int):=by omega
    as_aux_lemma=>
     have hE0:=HEr.out.alloc (.cells #[] 3)
     have hO0:OwnI R w2.heap.size 3 (wr.alloc (.cells #[] 3)) (.slice (some ⟨wr.heap.size,0,none⟩) 0 0) []:=⟨⟨by simp,Or.inr ⟨wr.heap.size,0,#[],by simp,HEr.out.size,heap_alloc_new _ _,by simp,by simp[maxLen],by simp,by simp⟩⟩,fun j hj=>HEr.out.inv.none_of_ge (Nat.le_of_eq (Option.some.inj (show some wr.heap.size=some j from hj)))⟩
     have hvw:=(HVf.out.ev (HE2.out.trans hE0))
     obtain⟨bS,oS,rfl,_⟩:=hvw.at (i:=0) (by rw[HN.out];omega)
     have hsrc:∀ j,j<n→(wr.alloc (.cells #[] 3)).cell? ((⟨bS,oS,none⟩:Addr).add j)=some (.int .i64 (nth (toI s) j)):=fun j hj=>by
      obtain⟨b',o',e',hc⟩:=hvw.at (i:=j) (by rw[HN.out];exact hj)
      cases e'
      rw[Addr.add_lit,hc,toI_nth]
     have HE0:=Lib.hid hE0
     have z0:=(HB1.out _ hE0).1
     have HO0:=Lib.hid hO0
     have HSrc:=Lib.hid hsrc
     have hsl:(toI s).length=n:=by rw[toI_length,HN.out]
     have HSl:=Lib.hid hsl
     have hg3r:g3<wr.heap.size:=(HO3r.out.lt g3 rfl).2
     have HG3:=Lib.hid hg3r
     have HNo':=Lib.hid (fun x (hx:x<n)=>HNo.out x (by omega))
     have hbl:=lt_of_cell x0
     clear hE0 hO0 hvw hsrc hsl hg3r x1 x2 HNo HO4r HO4 HNm HPhi ha1 ha2 hbf
     go_wp2_with (at_builtin;refine wpList_app_ints (R:=R) (B:=w2.heap.size) rfl _ _ rfl HO0.out rfl ⟨bS,oS,none⟩ n c0 (toI s) HSl.out ?a0 ?a1 ?a2 ?a3 ?a4 ?_)
     try (case a0=>first|rfl|simp)
     case a1=>
      intro j hj
      have:=HSrc.out j hj
      rw[Addr.add_lit] at this
      first|exact this|(rw[Addr.add_lit];exact this)
     case a2=>first|omega|(simp;omega)
     case a3=>
      have:=HE0.out.size
      rw[World.size_alloc] at this
      first|exact this|(rw[World.size_alloc];exact this)
     case a4=>exact fun q hq=>HE0.out.inv.none_of_ge (by first|exact hq|(rw[World.size_alloc];exact hq))
     intro v5 w5 ho5 hg5 hs5
     try rw[List.nil_append] at ho5
     obtain⟨a5,c5,rfl,_⟩:=ho5.ints.open
     rw[HSl.out] at ho5 hs5 ⊢
     obtain⟨g5,rfl,hg5b,hg5r,_,_⟩:=ho5.headAt HSl.out (i:=0) (by omega)
     have HE5:=Lib.hid (HE0.out.app HO0.out (Nat.le_refl _) hg5)
     have HO5:=Lib.hid ho5
     have hg45:wr.heap.size≤g5:=by
      rcases hs5 g5 rfl with h|h
      ·have:=Option.some.inj (show some wr.heap.size=some g5 from h);omega
      ·first|omega|(simp at h;omega)
     have h03:(Value.slice (some ⟨g3,0,none⟩) n c3).ownBlock=none∨(Value.slice (some ⟨g3,0,none⟩) n c3).ownBlock≠(Value.slice (some ⟨wr.heap.size,0,none⟩) 0 0).ownBlock:=Or.inr (fun e=>by have:=HG3.out;have e2:=Option.some.inj (show some g3=some wr.heap.size from e);omega)
     have HO35:=Lib.hid ((HO3r.out.alloc (.cells #[] 3)).kept hg5 h03)
     have HG5:=Lib.hid (show w2.heap.size≤g5∧R g5=none∧wr.heap.size≤g5∧g5<w5.heap.size from⟨hg5b,hg5r,hg45,(ho5.lt g5 rfl).2⟩)
     clear ho5 hg5 hs5 HE0 HO0 h03 HSrc hg5b hg5r hg45 z0 x0 HO3 HO3r hbl
     obtain⟨x0,x1,x2,_⟩:=HB1.out w5 HE5.out
     go_wp2_with fail
     refine (HIv.out _ (HE2.out.trans HE5.out)).mono ?_
     rintro z w6 ⟨v6,rfl,he6,ho6⟩
     obtain⟨a6,c6,rfl,_⟩:=ho6.ints.open
     have hil:(toI (invL s)).length=n:=by rw[toI_length,invL_length,HN.out]
     rw[hil] at ho6 ⊢
     have HE6:=Lib.hid (HE5.out.trans he6)
     have HO6:=Lib.hid ho6
     have HO5:=Lib.hid (HO5.out.ev he6)
     have HO36:=Lib.hid (HO35.out.ev he6)
     clear he6 ho6 HO35
     obtain⟨xa,hxa⟩:∃ x,pa ^^^ 1=x:=⟨_,rfl⟩
     obtain⟨xb,hxb⟩:∃ x,pb ^^^ 1=x:=⟨_,rfl⟩
     obtain⟨x,hx⟩:∃ x,pd ^^^ 1=x:=⟨_,rfl⟩
     obtain⟨y,hy⟩:∃ x,pm ^^^ 1=x:=⟨_,rfl⟩
     have hne:n % 2=0:=by rw[←HN.out];exact HT.out.even
     have hxal:xa<n:=by rw[←hxa];exact xor_one_lt hne hpal
     have hxbl:xb<n:=by rw[←hxb];exact xor_one_lt hne hpbl
     have hxl:x<n:=by rw[←hx];exact xor_one_lt hne hpdl
     have hyl:y<n:=by rw[←hy];exact xor_one_lt hne hpml
     have hf:=HF.out
     have k1:at' (invL s) d=xa:=by rw[←hxa];exact (FlipD.back HT.out.perm HT.out.even hf.pal hf.fpa).1
     have k2:at' (invL s) m=xb:=by rw[←hxb];exact (FlipD.back HT.out.perm HT.out.even hf.pbl hf.fpb).1
     have k3:at' s d=pm:=by rw[←hf.fm,phiL_at hf.ml,hf.md]
     have k4:at' s m=pd:=by rw[←hf.fd,phiL_at hf.dl,hf.dm]
     have hfq:=HFq.out
     rw[k1,k2,k3,k4,hx,hy] at hfq
     have hM1:=fun w'=>rmate_any w' pd (by omega)
     have hM2:=fun w'=>rmate_any w' pm (by omega)
     rw[hx] at hM1
     rw[hy] at hM2
     have HM1:=Lib.hid hM1
     have HM2:=Lib.hid hM2
     have HFr:=Lib.hid hfq
     obtain⟨g6,rfl,hg6b,_,p1,_⟩:=HO6.out.headAt hil hdl
     obtain⟨_,e1,_,_,p2,_⟩:=HO6.out.headAt hil hmm
     cases e1
     rw[toI_nth,k1] at p1
     rw[toI_nth,k2] at p2
     obtain⟨_,e1,_,_,p3,_⟩:=HO5.out.headAt HSl.out hdl
     cases e1
     obtain⟨_,e1,_,_,p4,_⟩:=HO5.out.headAt HSl.out hmm
     cases e1
     rw[toI_nth,k3] at p3
     rw[toI_nth,k4] at p4
     have ln:∀ (L:List Int) (i:Nat) (v:Int),L.length=n→(L.set i v).length=n:=fun L i v h=>by rw[List.length_set];exact h
     have LN:=Lib.hid ln
     obtain⟨_,e1,_,_,q1,f1⟩:=HO5.out.headAt HSl.out hxal
     cases e1
     have o1:=HO5.out.put HSl.out xa hxal ((pm:Nat):Int)
     obtain⟨_,e1,_,_,q2,f2⟩:=o1.headAt (LN.out _ _ _ HSl.out) hxbl
     cases e1
     have o2:=o1.put (LN.out _ _ _ HSl.out) xb hxbl ((pd:Nat):Int)
     have HO7:=Lib.hid o2.drew
     obtain⟨hb5,hr5,hg35,hlt5⟩:=HG5.out
     have HE7:=Lib.hid (((HE6.out.setCell (p:=⟨g5,xa,none⟩) hb5 hr5 (.int .i64 ((pm:Nat):Int))).setCell (p:=⟨g5,xb,none⟩) hb5 hr5 (.int .i64 ((pd:Nat):Int))).drew)
     have hn3:∀ (o:Nat),(Value.slice (some ⟨g3,0,none⟩) n c3).ownBlock≠some (⟨g5,o,none⟩:Addr).block:=fun o e=>by
      have e2:=Option.some.inj (show some g3=some g5 from e)
      have:=HG3.out
      omega
     have HO37:=Lib.hid (((HO36.out.setCell (a:=⟨g5,xa,none⟩) (hn3 xa) (.int .i64 ((pm:Nat):Int))).setCell (a:=⟨g5,xb,none⟩) (hn3 xb) (.int .i64 ((pd:Nat):Int))).drew)
     have HN3:=Lib.hid hn3
     clear k1 k2 k3 k4 hfq hM1 hM2 hf hxa hxb hx hy ln o1 o2 hb5 hr5 hg35 hlt5 hn3 HO36 hil hne
     go_wp2_with fail
     go_region
     all_goals go_wp2_with fail
     as_aux_lemma=>
      obtain⟨w7,hw7⟩:∃ w',((w6.setCell ⟨g5,xa,none⟩ (.int .i64 ((pm:Nat):Int))).setCell ⟨g5,xb,none⟩ (.int .i64 ((pd:Nat):Int))).drew=w':=⟨_,rfl⟩
      rw[hw7] at HE7 HO7 HO37 ⊢
      obtain⟨_,e1,_,_,r1,_⟩:=HO37.out.headAt (by rw[toI_length];exact hpl) hdl
      cases e1
      obtain⟨_,e1,_,_,r2,_⟩:=HO37.out.headAt (by rw[toI_length];exact hpl) hmm
      cases e1
      rw[toI_nth,HF.out.fd] at r1
      rw[toI_nth,HF.out.fm] at r2
      clear hw7 p1 p2 p3 p4 q1 q2 f1 f2 x0 x1 x2
      refine wp_region_held_drew (S:=(fun w':World=>w'.cell? ⟨g3,d,none⟩=some (.int .i64 (pd:Int))∧w'.cell? ⟨g3,m,none⟩=some (.int .i64 (pm:Int)))) (by kernel_rfl) ⟨r1,r2⟩ (fun hHeld=>?_)
      refine tk 0 (v:=?fmt_0) ?gmt_0 ?_
      case gmt_0=>(intro w' ⟨s0,s1⟩;go_simp;try with_reducible rfl)
      try simp only[Act.put,rd]
      refine tk 1 (v:=?fmt_1) ?gmt_1 ?_
      case gmt_1=>(intro w' ⟨s0,s1⟩;go_simp;try with_reducible rfl)
      try simp only[Act.put,rd]
      refine tk 2 (v:=?fmt_2) ?gmt_2 ?_
      case gmt_2=>(intro w' ⟨s0,s1⟩;go_simp;try with_reducible rfl)
      try simp only[Act.put,rd]
      refine tk 3 (v:=?fmt_3) ?gmt_3 ?_
      case gmt_3=>(intro w' ⟨s0,s1⟩;go_simp;try with_reducible rfl)
      try simp only[Act.put,rd]
      refine tk 5 (v:=?fmt_5) ?gmt_5 ?_
      case gmt_5=>(intro w' ⟨s0,s1⟩;go_simp;try with_reducible rfl)
      try simp only[Act.put,rd]
      refine tk 6 (v:=?fmt_6) ?gmt_6 ?_
      case gmt_6=>(intro w' ⟨s0,s1⟩;go_simp;try with_reducible rfl)
      try simp only[Act.put,rd]
      refine tk 7 (v:=?fmt_7) ?gmt_7 ?_
      case gmt_7=>(intro w' ⟨s0,s1⟩;go_simp;try with_reducible rfl)
      try simp only[Act.put,rd]
      refine tk 8 (v:=?fmt_8) ?gmt_8 ?_
      case gmt_8=>(intro w' ⟨s0,s1⟩;go_simp;try with_reducible rfl)
      try simp only[Act.put,rd]
      refine nx 4 fun K hK=>?_
      go_simp
      refine (HM1.out _).mono ?_
      rintro z wq ⟨rfl,rfl⟩
      go_simp
      refine hK.out _ _ ⟨r1,r2⟩ (fun hHeld2=>?_)
      clear hHeld
      refine nx 9 fun K hK=>?_
      go_simp
      refine (HM2.out _).mono ?_
      rintro z wq ⟨rfl,rfl⟩
      go_simp
      refine hK.out _ _ ⟨r1,r2⟩ (fun hHeld3=>?_)
      clear hHeld2
      refine tk 10 (v:=?fmt_10) ?gmt_10 ?_
      case gmt_10=>(intro w' ⟨s0,s1⟩;go_simp;try with_reducible rfl)
      try simp only[Act.put,rd]
      refine tk 11 (v:=?fmt_11) ?gmt_11 ?_
      case gmt_11=>(intro w' ⟨s0,s1⟩;go_simp;try with_reducible rfl)
      try simp only[Act.put,rd]
      refine wpAnyH_done (by kernel_rfl) ?_ _
      clear hHeld3
      as_aux_lemma=>
       have hl7:(((toI s).set xa ((pm:Nat):Int)).set xb ((pd:Nat):Int)).length=n:=LN.out _ _ _ (LN.out _ _ _ HSl.out)
       obtain⟨L7,hL7⟩:∃ L,((toI s).set xa ((pm:Nat):Int)).set xb ((pd:Nat):Int)=L:=⟨_,rfl⟩
       rw[hL7] at HO7 hl7
       have HL7:=Lib.hid hL7
       obtain⟨_,e1,_,_,q1,f1⟩:=HO7.out.headAt hl7 hxl
       cases e1
       have o1:=HO7.out.put hl7 x hxl ((d:Nat):Int)
       obtain⟨_,e1,_,_,q2,f2⟩:=o1.headAt (LN.out _ _ _ hl7) hdl
       cases e1
       have o2:=o1.put (LN.out _ _ _ hl7) d hdl ((pa:Nat):Int)
       obtain⟨_,e1,_,_,q3,f3⟩:=o2.headAt (LN.out _ _ _ (LN.out _ _ _ hl7)) hyl
       cases e1
       have o3:=o2.put (LN.out _ _ _ (LN.out _ _ _ hl7)) y hyl ((m:Nat):Int)
       obtain⟨_,e1,_,_,q4,f4⟩:=o3.headAt (LN.out _ _ _ (LN.out _ _ _ (LN.out _ _ _ hl7))) hmm
       cases e1
       have o4:=o3.put (LN.out _ _ _ (LN.out _ _ _ (LN.out _ _ _ hl7))) m hmm ((pb:Nat):Int)
       obtain⟨hb5,hr5,hg35,hlt5⟩:=HG5.out
       have HE8:=Lib.hid (((((HE7.out.setCell (p:=⟨g5,x,none⟩) hb5 hr5 (.int .i64 ((d:Nat):Int))).setCell (p:=⟨g5,d,none⟩) hb5 hr5 (.int .i64 ((pa:Nat):Int))).setCell (p:=⟨g5,y,none⟩) hb5 hr5 (.int .i64 ((m:Nat):Int))).setCell (p:=⟨g5,m,none⟩) hb5 hr5 (.int .i64 ((pb:Nat):Int))).drew)
       have HO8:=Lib.hid o4.drew
       clear hL7 o1 o2 o3 o4 hb5 hr5 hg35 hlt5 r1 r2
       go_upto_region 19 with fail
       obtain⟨w9,hw9⟩:∃ w',((((w7.setCell ⟨g5,x,none⟩ (.int .i64 ((d:Nat):Int))).setCell ⟨g5,d,none⟩ (.int .i64 ((pa:Nat):Int))).setCell ⟨g5,y,none⟩ (.int .i64 ((m:Nat):Int))).setCell ⟨g5,m,none⟩ (.int .i64 ((pb:Nat):Int))).drew=w':=⟨_,rfl⟩
       rw[hw9] at HE8 HO8 ⊢
       obtain⟨x0,x1,x2,_⟩:=HB1.out _ HE8.out
       obtain⟨yb,yn⟩:=HB2.out _ HE8.out
       obtain⟨y0,y1,y2,yf⟩:=boxC_cells yb
       have hf0:=yf 0
       have hf1:=yf 1
       have hf2:=yf 2
       have HYb:=Lib.hid yb
       have HYn:=Lib.hid yn
       clear yb yn yf q1 q2 q3 q4 f1 f2 f3 f4 hw9
       go_wp2_with fail
       have hb3:=set3 (x:=.slice (some ⟨g5,0,none⟩) n c5) (y:=.int .i64 root) (z:=.int .i64 0) HYb.out
       obtain⟨u0,u1,u2,_⟩:=boxC_cells hb3
       have hE:=(((HE2.out.trans HE8.out).setCell (p:=⟨w.heap.size+1,0,none⟩) (by simp) HYn.out (.slice (some ⟨g5,0,none⟩) n c5)).setCell (p:=⟨w.heap.size+1,1,none⟩) (by simp) HYn.out (.int .i64 root)).setCell (p:=⟨w.heap.size+1,2,none⟩) (by simp) HYn.out (.int .i64 0)
       have hq:((((L7.set x ((d:Nat):Int)).set d ((pa:Nat):Int)).set y ((m:Nat):Int)).set m ((pb:Nat):Int))=toI (flipL s d):=by rw[←HFr.out,←HL7.out];simp[toI,List.map_set]
       have ho:=HO8.out
       rw[hq] at ho
       have htr:TriS (flipL s d):=HFl.out (by rw[HNa.out,HNb.out];exact HAb.out) (fun z hz=>by rw[HNa.out,HNb.out];exact HNo'.out z (by rw[←HN.out];exact hz))
       have hfl2:(flipL s d).length=n:=by rw[flipL_length,HN.out]
       have hno:∀ (o:Nat),(Value.slice (some ⟨g5,0,none⟩) n c5).ownBlock≠some (⟨w.heap.size+1,o,none⟩:Addr).block:=fun o e=>by
        have e2:=Option.some.inj (show some g5=some (w.heap.size+1) from e)
        have:=HG5.out.1
        have:=HSz2.out
        omega
       have hbm:B≤w2.heap.size:=by have:=HBw.out;have:=HSz2.out;omega
       rw[HN.out]
       refine bodyPost_ret (v:=refV (.slice (some ⟨g5,0,none⟩) n c5) root 0) ?_ rfl ⟨some ⟨g5,0,none⟩,c5,flipL s d,htr,hfl2,rfl,hE,(((ho.mono hbm).setCell (hno 0) _).setCell (hno 1) _).setCell (hno 2) _⟩
       simp[results,Tryz.results29,go_sem,u0,u1,u2,refV]
end
section
open Go.RowKit
set_option linter.unusedVariables false
set_option linter.unusedSimpArgs false
def RetTri (R:Reg) (w:World) (n:Nat) (e:Ending) (w':World):Prop:=
 ∃ s rt,TriS s∧s.length=n∧rt<n∧RetMap R w s ((rt:Nat):Int) 0 e w'
theorem store_box3 {R:Reg} {w w4:World} {b b0 m c T B E:Nat} {a:Option Addr} {y z c0 c1 c2:Value} {o:Obj} {xs:List Int} (he:Ev R w R w4) (hb:w4.heap[b]?=some (.cells #[c0,c1,c2] T (0,0))) (hw:w.heap.size≤b) (hn:R b=none)
  (hb0:w4.heap[b0]?=some o) (hne:b0<b) (ho:OwnI R B E w4 (.slice a m c) xs) (hq:b<B):
  Ev R w R (((w4.setCell ⟨b,0,none⟩ (.slice a m c)).setCell ⟨b,1,none⟩ y).setCell ⟨b,2,none⟩ z) ∧
  (((w4.setCell ⟨b,0,none⟩ (.slice a m c)).setCell ⟨b,1,none⟩ y).setCell ⟨b,2,none⟩ z).heap[b0]?=some o ∧
  (((w4.setCell ⟨b,0,none⟩ (.slice a m c)).setCell ⟨b,1,none⟩ y).setCell ⟨b,2,none⟩ z).heap[b]?=some (.cells #[.slice a m c,y,z] T (0,0)) ∧
  OwnI R B E (((w4.setCell ⟨b,0,none⟩ (.slice a m c)).setCell ⟨b,1,none⟩ y).setCell ⟨b,2,none⟩ z) (.slice a m c) xs:=by
 have hno:∀ (i:Nat),(Value.slice a m c).ownBlock≠some (⟨b,i,none⟩:Addr).block:=fun i e=>by
  have h1:=(ho.lt _ e).1
  have h2:(⟨b,i,none⟩:Addr).block=b:=rfl
  omega
 refine⟨((he.setCell (p:=⟨b,0,none⟩) hw hn _).setCell (p:=⟨b,1,none⟩) hw hn _).setCell (p:=⟨b,2,none⟩) hw hn _,?_,set3 hb,((ho.setCell (hno 0) _).setCell (hno 1) _).setCell (hno 2) _⟩
 rw[Below.heap_setCell _ _ _ _ (by show b0≠b;omega),Below.heap_setCell _ _ _ _ (by show b0≠b;omega),Below.heap_setCell _ _ _ _ (by show b0≠b;omega)]
 exact hb0
set_option maxRecDepth 100000 in
set_option maxHeartbeats 3000000 in
theorem r14tri_any (R:Reg) (w:World) (hI:Inv R w) (k:Nat) (hk:k≤100) (v:Value) (bs:List Nat) (hv:FreeB R w v bs) (root:Nat) (hr:root≤255):
  Calls Tryz.prog 7 #[.int .i64 (k:Int),v,.int .u8 (root:Int)] w (RetTri R w (6+6*k)):=by
 have hpk:=fun w' (h:Ev R w R w') t ht=>pick_any R w' h.inv v bs (hv.ev h) t ht
 obtain⟨a0,c0,rfl,_,_⟩:=hv
 have HPk:=Lib.hid hpk
 have HI:=Lib.hid hI
 have hn0:R w.heap.size=none:=hI.none_of_ge (Nat.le_refl _)
 have hn2:R (w.heap.size+2)=none:=hI.none_of_ge (by omega)
 have he0:Ev R w R (w.alloc (.cells #[.slice none 0 0,.int .i64 0,.int .i64 0] 27)):=(Ev.refl hI).alloc _
 have he1:=he0.alloc (.cells #[.int .i64 5,.int .i64 2,.int .i64 1,.int .i64 4,.int .i64 3,.int .i64 0] 3)
 have he2:=he1.alloc (.cells #[.slice (some ⟨w.heap.size+1,0,none⟩) 6 6,.int .i64 0,.int .i64 0] 27)
 have ho1:OwnI R w.heap.size 3 ((w.alloc (.cells #[.slice none 0 0,.int .i64 0,.int .i64 0] 27)).alloc (.cells #[.int .i64 5,.int .i64 2,.int .i64 1,.int .i64 4,.int .i64 3,.int .i64 0] 3)) (.slice (some ⟨w.heap.size+1,0,none⟩) 6 6) (toI [5,2,1,4,3,0]):=⟨⟨(by first|rfl|simp|simp[maxLen]|simp[toI]),Or.inr ⟨w.heap.size+1,6,#[.int .i64 5,.int .i64 2,.int .i64 1,.int .i64 4,.int .i64 3,.int .i64 0],(by first|rfl|simp|simp[maxLen]|simp[toI]),(by simp),(by have:=heap_alloc_new (w.alloc (.cells #[.slice none 0 0,.int .i64 0,.int .i64 0] 27)) (.cells #[.int .i64 5,.int .i64 2,.int .i64 1,.int .i64 4,.int .i64 3,.int .i64 0] 3);simpa using this),(by first|rfl|simp|simp[maxLen]|simp[toI]),(by first|rfl|simp|simp[maxLen]|simp[toI]),(by first|rfl|simp|simp[maxLen]|simp[toI]),(by first|rfl|simp|simp[maxLen]|simp[toI])⟩⟩,fun j hj=>he0.inv.none_of_ge (Nat.le_of_eq (by have:=Option.some.inj (show some (w.heap.size+1)=some j from hj);simp;omega))⟩
 have ho2:=ho1.alloc (.cells #[.slice (some ⟨w.heap.size+1,0,none⟩) 6 6,.int .i64 0,.int .i64 0] 27)
 have hb0:(((w.alloc (.cells #[.slice none 0 0,.int .i64 0,.int .i64 0] 27)).alloc (.cells #[.int .i64 5,.int .i64 2,.int .i64 1,.int .i64 4,.int .i64 3,.int .i64 0] 3)).alloc (.cells #[.slice (some ⟨w.heap.size+1,0,none⟩) 6 6,.int .i64 0,.int .i64 0] 27)).heap[w.heap.size]?=some (.cells #[.slice none 0 0,.int .i64 0,.int .i64 0] 27 (0,0)):=by
  rw[Below.heap_alloc _ _ _ (by simp;omega),Below.heap_alloc _ _ _ (by simp)]
  exact heap_alloc_new w _
 have hb2:(((w.alloc (.cells #[.slice none 0 0,.int .i64 0,.int .i64 0] 27)).alloc (.cells #[.int .i64 5,.int .i64 2,.int .i64 1,.int .i64 4,.int .i64 3,.int .i64 0] 3)).alloc (.cells #[.slice (some ⟨w.heap.size+1,0,none⟩) 6 6,.int .i64 0,.int .i64 0] 27)).heap[w.heap.size+2]?=some (.cells #[.slice (some ⟨w.heap.size+1,0,none⟩) 6 6,.int .i64 0,.int .i64 0] 27 (0,0)):=by
  have:=heap_alloc_new ((w.alloc (.cells #[.slice none 0 0,.int .i64 0,.int .i64 0] 27)).alloc (.cells #[.int .i64 5,.int .i64 2,.int .i64 1,.int .i64 4,.int .i64 3,.int .i64 0] 3)) (.cells #[.slice (some ⟨w.heap.size+1,0,none⟩) 6 6,.int .i64 0,.int .i64 0] 27)
  simpa using this
 clear hpk hI he0 he1 ho1
 have HE2:=Lib.hid he2
 have HO2:=Lib.hid ho2
 have HB0:=Lib.hid hb0
 have HB2:=Lib.hid hb2
 clear he2 ho2 hb0 hb2
 go_enter Tryz.func7,Tryz.ntmps7
 go_wp2_with fail
 go_loopg [8,9] k (fun g v8 v9 wr=>∃ (i t:Nat) (s:List Nat) (a:Option Addr) (c:Nat),i≤k∧k-i≤g∧v8=.int .i64 (t:Int)∧v9=.int .i64 (i:Int)∧t≤3*i∧TriS s∧s.length=6+6*i∧Ev R w R wr∧wr.heap[w.heap.size]?=some (.cells #[.slice none 0 0,.int .i64 0,.int .i64 0] 27 (0,0))∧wr.heap[w.heap.size+2]?=some (.cells #[.slice a (6+6*i) c,.int .i64 0,.int .i64 0] 27 (0,0))∧OwnI R w.heap.size 3 wr (.slice a (6+6*i) c) (toI s)∧∀ j,(Value.slice a (6+6*i) c).ownBlock=some j→j≠w.heap.size∧j≠w.heap.size+2)
 case atStart=>exact⟨0,0,[5,2,1,4,3,0],some ⟨w.heap.size+1,0,none⟩,6,Nat.zero_le _,by omega,rfl,rfl,by omega,triS_one,rfl,HE2.out,HB0.out,HB2.out,HO2.out,fun j hj=>by have:=Option.some.inj (show some (w.heap.size+1)=some j from hj);omega⟩
 case round=>
  clear HE2 HB0 HB2 HO2
  obtain⟨i,t,s,a,c,hik,hg,rfl,rfl,ht,hT,hsl,hev,hb0,hb2,ho,hob⟩:=hrel
  obtain⟨n,hn⟩:∃ n,6+6*i=n:=⟨_,rfl⟩
  rw[hn] at hsl hb2 ho hob
  have HOb:=Lib.hid hob
  clear hob
  have HN:=Lib.hid hn
  have HT:=Lib.hid hT
  have HSl:=Lib.hid hsl
  have HE:=Lib.hid hev
  have HB0:=Lib.hid hb0
  have HB2:=Lib.hid hb2
  have HO:=Lib.hid ho
  clear hT hsl hev hb0 hb2 ho hn
  obtain⟨x0,x1,x2,xf⟩:=boxC_cells HB2.out
  have xf0:=xf 0
  have xf1:=xf 1
  have xf2:=xf 2
  clear xf
  by_cases hi:i<k
  ·obtain⟨p,hp⟩:∃ p,pickN bs t=p:=⟨_,rfl⟩
   have hPk:=HPk.out wr.drew HE.out.drew t (by omega)
   rw[hp] at hPk
   obtain⟨d,hd⟩:∃ d,p % n=d:=⟨_,rfl⟩
   have hnp:0<n:=by have:=HN.out;omega
   have hdn:d<n:=by rw[←hd];exact Nat.mod_lt _ hnp
   have hr1:(p:Int).tmod (n:Int)=(d:Int):=by rw[←hd];rfl
   have hr2:(p:Int) % (n:Int)=(d:Int):=by rw[←hd];rfl
   have hnz:¬ (n:Int)=0:=by omega
   have hnz':¬ n=0:=by omega
   have HPk1:=Lib.hid hPk
   have HPt:=Lib.hid (fun w' (h:Ev R wr R w')=>r14put_any R w' h.inv (.slice a n c) s 0 0 (HO.out.ev h).free HT.out.perm (by have:=HSl.out;have:=HN.out;omega) HT.out.even d (by rw[HSl.out];exact hdn))
   unfold RetMap refV at HPt
   have HEd:=Lib.hid ((Ev.refl HE.out.inv).drew)
   have HEb:=Lib.hid (fun w' (h:Ev R wr R w')=>boxC_cells (h.boxC3 HB2.out (by exact hn2)).1)
   have HDn:=Lib.hid hdn
   clear hp hd hPk hdn
   go_wp2_with fail
   have hsl1:(starC s (orbitL (phiL s) d)).length=n+6:=by rw[starC_length,HT.out.orb (by rw[HSl.out];exact HDn.out),HSl.out];rfl
   have hT1:=HT.out.star (d:=d) (by rw[HSl.out];exact HDn.out)
   obtain⟨T,hTe⟩:∃ T,starC s (orbitL (phiL s) d)=T:=⟨_,rfl⟩
   rw[hTe] at hsl1 hT1 HPt
   rw[hsl1] at HPt
   have HTl:=Lib.hid hsl1
   have HT1:=Lib.hid hT1
   clear hsl1 hT1 hTe
   go_cut [] (fun wx=>Ev R w R wx∧wx.heap[w.heap.size]?=some (.cells #[.slice none 0 0,.int .i64 0,.int .i64 0] 27 (0,0))∧∃ (a1:Option Addr) (c1:Nat),wx.heap[w.heap.size+2]?=some (.cells #[.slice a1 (n+6) c1,.int .i64 0,.int .i64 0] 27 (0,0))∧OwnI R (w.heap.size+3) 3 wx (.slice a1 (n+6) c1) (toI T))
   case first=>
    go_region_with (first|(go_at_call 28;refine HPk1.out.mono ?_;rintro e w3 ⟨rfl,he3⟩;have HEd:=Lib.hid (HEd.out.trans he3);clear he3;obtain⟨x0,x1,x2,_⟩:=HEb.out _ HEd.out)|(go_at_call 27;refine (HPt.out _ HEd.out).mono ?_;rintro e w4 ⟨a4,c4,rfl,he4,ho4⟩;(try unfold refV);have HEe:=Lib.hid (HEd.out.trans he4);have HO4:=Lib.hid (ho4.mono (Nat.le_trans (lt_of_block HB2.out) HEd.out.size));clear he4 ho4 xf0 xf1 xf2;obtain⟨x0,x1,x2,xf⟩:=HEb.out _ HEe.out;have xf0:=xf 0;have xf1:=xf 1;have xf2:=xf 2;clear xf))
    all_goals (go_wp2_with fail;go_meet)
    all_goals
     obtain⟨r1,r2,r3,r4⟩:=store_box3 (b:=w.heap.size+2) (b0:=w.heap.size) (y:=.int .i64 0) (z:=.int .i64 0) (HE.out.trans HEe.out) (HEe.out.boxC3 HB2.out hn2).1 (by omega) hn2 (HEe.out.boxC3 HB0.out hn0).1 (by omega) HO4.out (by omega)
     exact⟨r1,r2,a4,c4,r3,r4⟩
   case rest=>
    obtain⟨hev,hb0,a1,c1,hb2,ho⟩:=hcut
    as_aux_lemma=>
     clear HE HB0 HB2 HO HPk1 HPt HEd HEb x0 x1 x2 xf0 xf1 xf2 hr1 hr2 hnz hnz'
     have HE:=Lib.hid hev
     have HB0:=Lib.hid hb0
     have HB2:=Lib.hid hb2
     have HO:=Lib.hid ho
     clear hev hb0 hb2 ho
     obtain⟨t1,ht1⟩:∃ x,t+1=x:=⟨_,rfl⟩
     obtain⟨t2,ht2⟩:∃ x,t+2=x:=⟨_,rfl⟩
     have hw1:IntKind.i64.wrap ((t:Int)+2)=(t2:Int):=by rw[show (t:Int)+2=(t2:Int) by omega];exact IntWalk.i64_in _ (by omega)
     have hw2:IntKind.i64.wrap ((t2:Int)-1)=(t1:Int):=by rw[show (t2:Int)-1=(t1:Int) by omega];exact IntWalk.i64_in _ (by omega)
     have hPk:=HPk.out wc HE.out t1 (by omega)
     obtain⟨p1,hp1⟩:∃ p,pickN bs t1=p:=⟨_,rfl⟩
     rw[hp1] at hPk
     have HPk1:=Lib.hid hPk
     clear hPk hp1
     obtain⟨q1,hq1⟩:∃ q,p1 % 2=q:=⟨_,rfl⟩
     have hr1:(p1:Int).tmod 2=(q1:Int):=by rw[←hq1];rfl
     have hr2:(p1:Int) % 2=(q1:Int):=by rw[←hq1];rfl
     have HQ1:=Lib.hid hq1
     clear hq1
     go_wp2_with fail
     refine HPk1.out.mono ?_
     rintro e w5 ⟨rfl,he5⟩
     have HE5:=Lib.hid (HE.out.trans he5)
     have HB05:=Lib.hid (he5.boxC3 HB0.out hn0).1
     have HB25:=Lib.hid (he5.boxC3 HB2.out hn2).1
     have HO5:=Lib.hid (HO.out.ev he5)
     clear he5 HE HB0 HB2 HO HPk1
     obtain⟨x0,x1,x2,xf⟩:=boxC_cells HB25.out
     have xf0:=xf 0
     have xf1:=xf 1
     have xf2:=xf 2
     clear xf
     have ht3:IntKind.i64.wrap ((t2:Int)+1)=((t+3:Nat):Int):=by rw[show (t2:Int)+1=((t+3:Nat):Int) by omega];exact IntWalk.i64_in _ (by omega)
     have hi1:IntKind.i64.wrap ((i:Int)+1)=((i+1:Nat):Int):=by rw[show (i:Int)+1=((i+1:Nat):Int) by omega];exact IntWalk.i64_in _ (by omega)
     have hn6:n+6=6+6*(i+1):=by have:=HN.out;omega
     have HN6:=Lib.hid hn6
     clear hn6
     by_cases hev:q1=0
     ·have hb1:((q1:Int) == 0)=true:=beq_iff_eq.2 (by omega)
      obtain⟨p,hp⟩:∃ p,pickN bs t2=p:=⟨_,rfl⟩
      have hPk:=HPk.out w5.drew HE5.out.drew t2 (by omega)
      rw[hp] at hPk
      obtain⟨N,hN⟩:∃ N,n+6=N:=⟨_,rfl⟩
      rw[hN] at HB25 HO5 x0 HTl HN6
      try rw[hN]
      obtain⟨d2,hd2⟩:∃ d,p % N=d:=⟨_,rfl⟩
      have hdn:d2<N:=by rw[←hd2];exact Nat.mod_lt _ (by omega)
      have hr3:(p:Int).tmod (N:Int)=(d2:Int):=by rw[←hd2];rfl
      have hr4:(p:Int) % (N:Int)=(d2:Int):=by rw[←hd2];rfl
      have hnz:¬ (N:Int)=0:=by omega
      have hnz':¬ N=0:=by omega
      have HPk2:=Lib.hid hPk
      have hlt2:=lt_of_block HB25.out
      have HLt:=Lib.hid hlt2
      have HFl:=Lib.hid (fun w' (h:Ev R w5 R w')=>r14flip_any R (w.heap.size+3) w' h.inv (.slice a1 N c1) T 0 (HO5.out.ev h) (Nat.le_trans HLt.out h.size) HT1.out (by have:=HTl.out;have:=HN6.out;omega) d2 (by rw[HTl.out];exact hdn))
      rw[HTl.out] at HFl
      unfold RetFl refV at HFl
      have HEd:=Lib.hid ((Ev.refl HE5.out.inv).drew)
      have HEb:=Lib.hid (fun w' (h:Ev R w5 R w')=>boxC_cells (h.boxC3 HB25.out hn2).1)
      clear hp hd2 hPk hdn hN hev hlt2
      go_wp2_with fail
      go_cut [] (fun wx=>Ev R w R wx∧wx.heap[w.heap.size]?=some (.cells #[.slice none 0 0,.int .i64 0,.int .i64 0] 27 (0,0))∧∃ (a2:Option Addr) (c2:Nat) (T2:List Nat),TriS T2∧T2.length=N∧wx.heap[w.heap.size+2]?=some (.cells #[.slice a2 N c2,.int .i64 0,.int .i64 0] 27 (0,0))∧OwnI R (w.heap.size+3) 3 wx (.slice a2 N c2) (toI T2))
      case first=>
       go_region_with (first|(go_at_call 28;refine HPk2.out.mono ?_;rintro e w6 ⟨rfl,he6⟩;have HEd:=Lib.hid (HEd.out.trans he6);clear he6;obtain⟨x0,x1,x2,_⟩:=HEb.out _ HEd.out)|(go_at_call 29;refine (HFl.out _ HEd.out).mono ?_;rintro e w7 ⟨a4,c4,T4,hT4,hl4,rfl,he4,ho4⟩;have HEe:=Lib.hid (HEd.out.trans he4);have HO4:=Lib.hid ho4;have HT4:=Lib.hid (show TriS T4∧T4.length=N from⟨hT4,hl4⟩);clear hT4 hl4 he4 ho4 xf0 xf1 xf2;obtain⟨x0,x1,x2,xf⟩:=HEb.out _ HEe.out;have xf0:=xf 0;have xf1:=xf 1;have xf2:=xf 2;clear xf))
       all_goals (go_wp2_with fail;go_meet)
       all_goals
        obtain⟨r1,r2,r3,r4⟩:=store_box3 (b:=w.heap.size+2) (b0:=w.heap.size) (y:=.int .i64 0) (z:=.int .i64 0) (HE5.out.trans HEe.out) (HEe.out.boxC3 HB25.out hn2).1 (by omega) hn2 (HEe.out.boxC3 HB05.out hn0).1 (by omega) HO4.out (by omega)
        exact⟨r1,r2,a4,c4,T4,HT4.out.1,HT4.out.2,r3,r4⟩
      case rest=>
       obtain⟨hev,hb0,a2,c2,T2,hT2,hl2,hb2,ho⟩:=hcut
       as_aux_lemma=>
        clear HPk2 HFl HEd HEb HE5 HB05 HB25 HO5 x0 x1 x2 xf0 xf1 xf2 hr3 hr4 hnz hnz' hr1 hr2
        go_wp2_with fail
        go_roundg (k-(i+1))
        case measure=>omega
        case rel=>
         have hN6:=HN6.out
         subst hN6
         exact⟨i+1,t+3,T2,a2,c2,by omega,by omega,by go_num,by go_num,by omega,hT2,hl2,hev,hb0,hb2,ho.mono (by omega),fun j hj=>by have:=(ho.lt j hj).1;omega⟩
     ·have hb1:((q1:Int) == 0)=false:=beq_eq_false_iff_ne.2 (by omega)
      clear hev
      go_wp2_with fail
      go_roundg (k-(i+1))
      case measure=>omega
      case rel=>
       have hN6:=HN6.out
       rw[hN6] at HTl HB25 HO5
       exact⟨i+1,t+2,T,a1,c1,by omega,by omega,by rw[←ht2],by go_num,by omega,HT1.out,HTl.out,HE5.out,HB05.out,HB25.out,HO5.out.mono (by omega),fun j hj=>by have:=(HO5.out.lt j hj).1;omega⟩
  ·have hik':i=k:=by omega
   as_aux_lemma=>
    obtain⟨y0,y1,y2,yf⟩:=boxC_cells HB0.out
    have yf0:=yf 0
    have yf1:=yf 1
    have yf2:=yf 2
    clear yf
    obtain⟨rr,hrr⟩:∃ x,root % n=x:=⟨_,rfl⟩
    have hnp:0<n:=by have:=HN.out;omega
    have hrn:rr<n:=by rw[←hrr];exact Nat.mod_lt _ hnp
    have hv0:IntKind.i64.wrap (root:Int)=(root:Int):=IntWalk.i64_in _ (by omega)
    have hr1:(root:Int).tmod (n:Int)=(rr:Int):=by rw[←hrr];rfl
    have hr2:(root:Int) % (n:Int)=(rr:Int):=by rw[←hrr];rfl
    have hnz:¬ (n:Int)=0:=by omega
    have hnz':¬ n=0:=by omega
    have HRn:=Lib.hid hrn
    clear hrr hrn
    have HNk:=Lib.hid (show n=6+6*k by rw[←hik'];exact HN.out.symm)
    go_wp2_with fail
    have hb1:(wr.setCell ⟨w.heap.size+2,1,none⟩ (.int .i64 (rr:Int))).heap[w.heap.size]?=some (.cells #[.slice none 0 0,.int .i64 0,.int .i64 0] 27 (0,0)):=by
     rw[Below.heap_setCell _ _ _ _ (by show w.heap.size≠w.heap.size+2;omega)]
     exact HB0.out
    have hb3:=set3 (x:=.slice a n c) (y:=.int .i64 (rr:Int)) (z:=.int .i64 0) hb1
    obtain⟨u0,u1,u2,_⟩:=boxC_cells hb3
    have hE:=(((HE.out.setCell (p:=⟨w.heap.size+2,1,none⟩) (by show w.heap.size≤w.heap.size+2;omega) hn2 (.int .i64 (rr:Int))).setCell (p:=⟨w.heap.size,0,none⟩) (Nat.le_refl _) hn0 (.slice a n c)).setCell (p:=⟨w.heap.size,1,none⟩) (Nat.le_refl _) hn0 (.int .i64 (rr:Int))).setCell (p:=⟨w.heap.size,2,none⟩) (Nat.le_refl _) hn0 (.int .i64 0)
    have hno:∀ (o:Nat),(Value.slice a n c).ownBlock≠some (⟨w.heap.size,o,none⟩:Addr).block:=fun o e=>(HOb.out _ e).1 rfl
    have hno2:(Value.slice a n c).ownBlock≠some (⟨w.heap.size+2,1,none⟩:Addr).block:=fun e=>(HOb.out _ e).2 rfl
    have hO:=(((HO.out.setCell (a:=⟨w.heap.size+2,1,none⟩) hno2 (.int .i64 (rr:Int))).setCell (a:=⟨w.heap.size,0,none⟩) (hno 0) (.slice a n c)).setCell (a:=⟨w.heap.size,1,none⟩) (hno 1) (.int .i64 (rr:Int))).setCell (a:=⟨w.heap.size,2,none⟩) (hno 2) (.int .i64 0)
    rw[←HNk.out]
    refine bodyPost_ret (v:=refV (.slice a n c) (rr:Int) 0) ?_ rfl ⟨s,rr,HT.out,HSl.out,HRn.out,a,c,by rw[HSl.out],hE,by rw[HSl.out];exact hO⟩
    simp[results,Tryz.results7,go_sem,u0,u1,u2,refV]
end
end Go.Proofs.YtgphnkkdmlohlaaGreatDoor
