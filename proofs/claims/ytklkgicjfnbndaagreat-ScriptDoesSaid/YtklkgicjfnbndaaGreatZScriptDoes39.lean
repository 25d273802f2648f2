/- grow.Flip. -/
import Derived.Test.YtklkgicjfnbndaaGreatZScriptDoes38
import Derived.Test.YtklkgicjfnbndaaGreatZScriptDoes15
import Derived.Test.YtklkgicjfnbndaaGreatZScriptDoes30
import Derived.Test.YtklkgicjfnbndaaGreatZScriptDoes37
import Derived.Test.YtklkgicjfnbndaaGreatZScriptDoes35
namespace Go.Proofs.YtklkgicjfnbndaaGreat
section
open Go.RowKit
set_option linter.unusedVariables false
theorem DraftAt.along {R0 R:Reg} {w0 w:World} {b:Nat} {p:Value} {L:List Nat} (h:DraftAt R0 w0 R w b p L) {n:Nat} (hn:L.length=n) (h0:0<n):
  ∃ g cap,∀ R' w',Ev R w R' w'→w'.cell? ⟨b,0,none⟩=some p∧w'.cell? ⟨b,1,none⟩=some (.slice (some ⟨g,0,none⟩) n cap) ∧
   (∀ i,i<n→w'.cell? ⟨g,i,none⟩=some (.int .i64 ((at' L i:Nat):Int))∧w'.frozen? ⟨g,i,none⟩=false) ∧
   (∀ i y,i<n→DraftAt R0 w0 R' (w'.setCell ⟨g,i,none⟩ (.int .i64 ((y:Nat):Int))) b p (L.set i y)∧(w'.setCell ⟨g,i,none⟩ (.int .i64 ((y:Nat):Int))).cell? ⟨b,1,none⟩=some (.slice (some ⟨g,0,none⟩) n cap)):=by
 obtain⟨a,cap,h1,h2,h3⟩:=h.ex
 rw[hn] at h1 h2 h3
 obtain⟨g,rfl,_⟩:=h2.headAt (by rw[toI_length];exact hn) h0
 refine⟨g,cap,fun R' w' he=>?_⟩
 have h1':=(he.block b (lt_of_block h1) h.nb).trans h1
 have h2':=h2.ev he
 obtain⟨c0,c1,hf⟩:=draft_cells h1'
 refine⟨c0,c1,fun i hi=>?_,fun i y hi=>?_⟩
 ·obtain⟨g',e,_,_,k1,k2⟩:=h2'.headAt (by rw[toI_length];exact hn) hi
  cases e
  rw[toI_nth] at k1
  exact⟨k1,k2⟩
 ·obtain⟨q1,q2,_⟩:=DraftAt.put (h.step he) hn h1' h2' h3 rfl hi y
  exact⟨q1,(draft_cells q2).2.1⟩
def flipL (s:List Nat) (d:Nat):List Nat:=
 let m:=d ^^^ 1
 let a:=at' (invL s) (at' (phiL s) (at' (phiL s) d))
 let b:=at' (invL s) (at' (phiL s) (at' (phiL s) m))
 let L1:=(s.set (at' (invL s) d) (at' s d)).set (at' (invL s) m) (at' s m)
 behindL ((behindL (L1.set d d) d a).set m m) m b
def flipB (s:List Nat) (d:Nat):Bool:=
 decide ((orbI (phiL s) (d:Int)).length=3) && decide ((orbI (phiL s) ((d ^^^ 1:Nat):Int)).length=3) && !decide (nameI (phiL s) (d:Int)=nameI (phiL s) ((d ^^^ 1:Nat):Int)) && !decide (at' s d=d) && !decide (at' s (d ^^^ 1)=d ^^^ 1)
set_option maxRecDepth 100000 in
set_option maxHeartbeats 1200000 in
theorem flip_any (R:Reg) (w:World) (hI:Inv R w) (p:Value) (s:List Nat) (root lone:Int) (hp:MapAt R p s root lone) (d:Int):
  Calls Tryz.prog 16 #[p,.int .i64 d] w (WayPost R w (inR s.length d) (flipB s d.toNat) (flipL s d.toNat) root lone):=by
 obtain⟨hS,hok⟩:=hp.ok hI
 have hn:s.length≤131073:=hok.2.1
 have HOf:=Lib.hid (gof_one R w hI p s root lone hp d)
 have HP:=Lib.hid hp
 have HMt:=Lib.hid (fun R' w' (h:Ev R w R' w') d=>mate_any R' w' h.inv p s root lone (h.map hp) d)
 have HTr:=Lib.hid (fun R' w' (h:Ev R w R' w') d=>gtri_any R' w' h.inv p s root lone (h.map hp) d)
 have HFc:=Lib.hid (fun R' w' (h:Ev R w R' w') d=>face_any R' w' h.inv p s root lone (h.map hp) d)
 have HSg:=Lib.hid (fun R' w' (h:Ev R w R' w') (d:Nat) (hd:d<s.length)=>(by
  have h:=sigma_any R' w' h.inv p s root lone (h.map hp) (d:Int)
  rw[atI_in hd] at h
  exact h:Calls Tryz.prog 58 #[p,.int .i64 (d:Int)] w' fun e w2=>e=.returned (.int .i64 ((at' s d:Nat):Int))∧w'=w2))
 have HPi:=Lib.hid (fun R' w' (h:Ev R w R' w') (d:Nat) (hd:d<s.length)=>(by
  have h:=phi_any R' w' h.inv p s root lone (h.map hp) (d:Int)
  rw[atI_in (by rw[phiL_length];exact hd)] at h
  exact h:Calls Tryz.prog 54 #[p,.int .i64 (d:Int)] w' fun e w2=>e=.returned (.int .i64 ((at' (phiL s) d:Nat):Int))∧w'=w2))
 have HBk:=Lib.hid (fun R' w' (h:Ev R w R' w') (d:Nat) (hd:d<s.length)=>(by
  have h:=mback_any R' w' h.inv p s root lone (h.map hp) (d:Int)
  rw[backI_in hd] at h
  exact h:Calls Tryz.prog 59 #[p,.int .i64 (d:Int)] w' (RetV R' w' (.int .i64 ((at' (invL s) d:Nat):Int)))))
 have HEv:=Lib.hid hok.1
 have hiv:=invL_perm hS
 have hil:=invL_length s
 have hph:=phiL_perm hS hok.1
 have hivl:∀ i,i<s.length→at' (invL s) i<s.length:=fun i hi=>by have:=hiv.lt (i:=i) (by rw[hil];exact hi);omega
 have hphl:∀ i,i<s.length→at' (phiL s) i<s.length:=fun i hi=>by have:=hph.lt (i:=i) (by rw[phiL_length];exact hi);rw[phiL_length] at this;exact this
 have HIv:=Lib.hid hivl
 have HPh:=Lib.hid hphl
 have HSl:=Lib.hid (fun i (hi:i<s.length)=>hS.lt hi)
 clear hI hp hS hok hiv hil hph hivl hphl
 go_enter Tryz.func16,Tryz.ntmps16
 go_wp2_with fail
 refine HOf.out.mono ?_
 rintro e w1 (⟨h1,rfl,he⟩|⟨h1,b,rfl,hd⟩)
 ·have HE:=Lib.hid he
  have H1:=Lib.hid h1
  clear he h1
  go_wp2_with fail
  go_ret2
  exact Or.inl ⟨H1.out,rfl,R,HE.out⟩
 ·obtain⟨k,rfl,hk⟩:=inR_nat h1
  have HD1:=Lib.hid hd
  have H1:=Lib.hid h1
  have hmk:=xor_one_lt HEv.out hk
  have hm:=mateI_in hk
  have hfb:flipB s (k:Int).toNat=(decide ((orbI (phiL s) (k:Int)).length=3) && decide ((orbI (phiL s) ((k ^^^ 1:Nat):Int)).length=3) && !decide (nameI (phiL s) (k:Int)=nameI (phiL s) ((k ^^^ 1:Nat):Int)) && !decide (at' s k=k) && !decide (at' s (k ^^^ 1)=k ^^^ 1)):=by
   unfold flipB;rw[Int.toNat_natCast]
  have hfl:flipL s (k:Int).toNat=behindL ((behindL (((s.set (at' (invL s) k) (at' s k)).set (at' (invL s) (k ^^^ 1)) (at' s (k ^^^ 1))).set k k) k (at' (invL s) (at' (phiL s) (at' (phiL s) k)))).set (k ^^^ 1) (k ^^^ 1)) (k ^^^ 1) (at' (invL s) (at' (phiL s) (at' (phiL s) (k ^^^ 1)))):=by
   simp only[flipL,Int.toNat_natCast]
  obtain⟨m,hme⟩:∃ m,k ^^^ 1=m:=⟨_,rfl⟩
  rw[hme] at hmk hm hfb hfl
  obtain⟨n,hne⟩:∃ n,s.length=n:=⟨_,rfl⟩
  have HNe:=Lib.hid hne
  have HM:=Lib.hid hm
  obtain⟨B1,hB1⟩:∃ x,decide ((orbI (phiL s) (k:Int)).length=3)=x:=⟨_,rfl⟩
  obtain⟨B2,hB2⟩:∃ x,decide ((orbI (phiL s) (m:Int)).length=3)=x:=⟨_,rfl⟩
  obtain⟨N1,hN1⟩:∃ x,nameI (phiL s) (k:Int)=x:=⟨_,rfl⟩
  obtain⟨N2,hN2⟩:∃ x,nameI (phiL s) (m:Int)=x:=⟨_,rfl⟩
  obtain⟨S1,hS1⟩:∃ x,at' s k=x:=⟨_,rfl⟩
  obtain⟨S2,hS2⟩:∃ x,at' s m=x:=⟨_,rfl⟩
  rw[hB1,hB2,hN1,hN2,hS1,hS2] at hfb
  rw[hS1,hS2] at hfl
  have T1:=fun R' w' (h:Ev R w R' w')=>HTr.out R' w' h (k:Int)
  have T2:=fun R' w' (h:Ev R w R' w')=>HTr.out R' w' h (m:Int)
  have F1:=fun R' w' (h:Ev R w R' w')=>HFc.out R' w' h (k:Int)
  have F2:=fun R' w' (h:Ev R w R' w')=>HFc.out R' w' h (m:Int)
  have G1:=fun R' w' (h:Ev R w R' w')=>HSg.out R' w' h k hk
  have G2:=fun R' w' (h:Ev R w R' w')=>HSg.out R' w' h m hmk
  rw[hB1] at T1
  rw[hB2] at T2
  rw[hN1] at F1
  rw[hN2] at F2
  rw[hS1] at G1
  rw[hS2] at G2
  have HT1:=Lib.hid T1
  have HT2:=Lib.hid T2
  have HF1:=Lib.hid F1
  have HF2:=Lib.hid F2
  have HG1:=Lib.hid G1
  have HG2:=Lib.hid G2
  have HFb:=Lib.hid hfb
  have z1:=HPh.out k hk
  have z2:=HPh.out _ z1
  have z3:=HIv.out _ z2
  have y1:=HPh.out m hmk
  have y2:=HPh.out _ y1
  have y3:=HIv.out _ y2
  have x1:=HIv.out k hk
  have x2:=HIv.out m hmk
  have u1:=fun R' w' (h:Ev R w R' w')=>HPi.out R' w' h k hk
  have u2:=fun R' w' (h:Ev R w R' w')=>HPi.out R' w' h _ z1
  have u3:=fun R' w' (h:Ev R w R' w')=>HBk.out R' w' h _ z2
  have v1:=fun R' w' (h:Ev R w R' w')=>HPi.out R' w' h m hmk
  have v2:=fun R' w' (h:Ev R w R' w')=>HPi.out R' w' h _ y1
  have v3:=fun R' w' (h:Ev R w R' w')=>HBk.out R' w' h _ y2
  have r1:=fun R' w' (h:Ev R w R' w')=>HBk.out R' w' h k hk
  have r2:=fun R' w' (h:Ev R w R' w')=>HBk.out R' w' h m hmk
  obtain⟨p1,e1⟩:∃ x,at' (phiL s) k=x:=⟨_,rfl⟩
  rw[e1] at z1 z2 z3 u1 u2 u3 hfl
  obtain⟨p2,e2⟩:∃ x,at' (phiL s) p1=x:=⟨_,rfl⟩
  rw[e2] at z2 z3 u2 u3 hfl
  obtain⟨A,e3⟩:∃ x,at' (invL s) p2=x:=⟨_,rfl⟩
  rw[e3] at z3 u3 hfl
  obtain⟨q1,e4⟩:∃ x,at' (phiL s) m=x:=⟨_,rfl⟩
  rw[e4] at y1 y2 y3 v1 v2 v3 hfl
  obtain⟨q2,e5⟩:∃ x,at' (phiL s) q1=x:=⟨_,rfl⟩
  rw[e5] at y2 y3 v2 v3 hfl
  obtain⟨C,e6⟩:∃ x,at' (invL s) q2=x:=⟨_,rfl⟩
  rw[e6] at y3 v3 hfl
  obtain⟨I1,e7⟩:∃ x,at' (invL s) k=x:=⟨_,rfl⟩
  rw[e7] at x1 r1 hfl
  obtain⟨I2,e8⟩:∃ x,at' (invL s) m=x:=⟨_,rfl⟩
  rw[e8] at x2 r2 hfl
  rw[hne] at hn hk hmk z3 y3 x1 x2
  have HFl:=Lib.hid hfl
  have U1:=Lib.hid u1
  have U2:=Lib.hid u2
  have U3:=Lib.hid u3
  have V1:=Lib.hid v1
  have V2:=Lib.hid v2
  have V3:=Lib.hid v3
  have RR1:=Lib.hid r1
  have RR2:=Lib.hid r2
  clear hd h1 HOf hm hfb hfl hme hne hB1 hB2 hN1 hN2 hS1 hS2 T1 T2 F1 F2 G1 G2 u1 u2 u3 v1 v2 v3 r1 r2 e1 e2 e3 e4 e5 e6 e7 e8 z1 z2 y1 y2 HTr HFc HSg HPi HBk
  have hmt:=HMt.out _ _ HD1.out.ev (k:Int)
  rw[HM.out] at hmt
  have HMt2:=Lib.hid hmt
  clear hmt HMt
  go_wp2_with fail
  refine HMt2.out.mono ?_
  rintro e w' ⟨rfl,rfl⟩
  clear HMt2
  go_wp2_with fail
  refine (HT1.out _ _ HD1.out.ev).mono ?_
  rintro e w2 ⟨rfl,R2,he⟩
  have HD2:=Lib.hid (HD1.out.step he)
  clear he HD1
  cases B1 with
  | false=>
   go_wp2_with fail
   go_ret2
   exact Or.inr (Or.inl ⟨H1.out,by rw[HFb.out];simp,rfl,R2,HD2.out.ev⟩)
  | true=>
   go_wp2_with fail
   refine (HT2.out _ _ HD2.out.ev).mono ?_
   rintro e w3 ⟨rfl,R3,he⟩
   have HD3:=Lib.hid (HD2.out.step he)
   clear he HD2
   cases B2 with
   | false=>
    go_wp2_with fail
    go_ret2
    exact Or.inr (Or.inl ⟨H1.out,by rw[HFb.out];simp,rfl,R3,HD3.out.ev⟩)
   | true=>
    go_wp2_with fail
    refine (HF1.out _ _ HD3.out.ev).mono ?_
    rintro e w4 ⟨rfl,R4,he⟩
    have HD4:=Lib.hid (HD3.out.step he)
    clear he HD3
    go_wp2_with fail
    refine (HF2.out _ _ HD4.out.ev).mono ?_
    rintro e w5 ⟨rfl,R5,he⟩
    have HD5:=Lib.hid (HD4.out.step he)
    clear he HD4
    by_cases hN:N1=N2
    ·have hb1:(N1 == N2)=true:=by simp[hN]
     go_wp2_with fail
     go_ret2
     exact Or.inr (Or.inl ⟨H1.out,by rw[HFb.out];simp[hN],rfl,R5,HD5.out.ev⟩)
    ·have hb1:(N1 == N2)=false:=by simp[hN]
     go_wp2_with fail
     refine (HG1.out _ _ HD5.out.ev).mono ?_
     rintro e w' ⟨rfl,rfl⟩
     by_cases hK1:S1=k
     ·have hb2:((S1:Int) == (k:Int))=true:=by simp[hK1]
      go_wp2_with fail
      go_ret2
      exact Or.inr (Or.inl ⟨H1.out,by rw[HFb.out];simp[hK1],rfl,R5,HD5.out.ev⟩)
     ·have hb2:((S1:Int) == (k:Int))=false:=by simp;omega
      go_wp2_with fail
      refine (HG2.out _ _ HD5.out.ev).mono ?_
      rintro e w' ⟨rfl,rfl⟩
      by_cases hK2:S2=m
      ·have hb3:((S2:Int) == (m:Int))=true:=by simp[hK2]
       go_wp2_with fail
       go_ret2
       exact Or.inr (Or.inl ⟨H1.out,by rw[HFb.out];simp[hK2],rfl,R5,HD5.out.ev⟩)
      ·have hb3:((S2:Int) == (m:Int))=false:=by simp;omega
       have HFb2:Hid (flipB s (k:Int).toNat=true):=Lib.hid (by rw[HFb.out];simp[hN,hK1,hK2])
       clear HFb
       go_wp2_with fail
       refine (U1.out _ _ HD5.out.ev).mono ?_
       rintro e w' ⟨rfl,rfl⟩
       go_wp2_with fail
       refine (U2.out _ _ HD5.out.ev).mono ?_
       rintro e w' ⟨rfl,rfl⟩
       go_wp2_with fail
       refine (U3.out _ _ HD5.out.ev).mono ?_
       rintro e w6 ⟨rfl,R6,he⟩
       have HD6:=Lib.hid (HD5.out.step he)
       clear he HD5 hb1 hb2 hb3
       go_wp2_with fail
       refine (V1.out _ _ HD6.out.ev).mono ?_
       rintro e w' ⟨rfl,rfl⟩
       go_wp2_with fail
       refine (V2.out _ _ HD6.out.ev).mono ?_
       rintro e w' ⟨rfl,rfl⟩
       go_wp2_with fail
       refine (V3.out _ _ HD6.out.ev).mono ?_
       rintro e w7 ⟨rfl,R7,he⟩
       have HD7:=Lib.hid (HD6.out.step he)
       have HD8:=Lib.hid (HD7.out.step ((Ev.refl HD7.out.ev.inv).alloc (.cells #[.int .i64 (k:Int),.int .i64 (A:Int),.int .i64 (m:Int),.int .i64 (C:Int)] 94)))
       clear he HD6 U1 U2 U3 V1 V2 V3
       have ix0:∀ w,(Instr.index 94 (.agg #[.int .i64 (k:Int),.int .i64 (A:Int),.int .i64 (m:Int),.int .i64 (C:Int)]) (.int .i64 0)).run Tryz.prog w=.ok (.agg #[.int .i64 (k:Int),.int .i64 (A:Int)]) w:=fun _=>by kernel_rfl
       have ix1:∀ w,(Instr.index 94 (.agg #[.int .i64 (k:Int),.int .i64 (A:Int),.int .i64 (m:Int),.int .i64 (C:Int)]) (.int .i64 1)).run Tryz.prog w=.ok (.agg #[.int .i64 (m:Int),.int .i64 (C:Int)]) w:=fun _=>by kernel_rfl
       have hArN:R7 w7.heap.size=none:=HD7.out.ev.inv.none_of_ge (Nat.le_refl _)
       have hPut:Ev R7 w7 (R7.put w7.heap.size (.inl (.cells #[.int .i64 (k:Int),.int .i64 (A:Int),.int .i64 (m:Int),.int .i64 (C:Int)] 94 (0,0)))) (w7.alloc (.cells #[.int .i64 (k:Int),.int .i64 (A:Int),.int .i64 (m:Int),.int .i64 (C:Int)] 94)):=((Ev.refl HD7.out.ev.inv).alloc (.cells #[.int .i64 (k:Int),.int .i64 (A:Int),.int .i64 (m:Int),.int .i64 (C:Int)] 94)).put _ (Nat.le_refl _) hArN (heap_alloc_new _ _)
       have HD9:=Lib.hid (HD7.out.step hPut)
       have hAr0:(R7.put w7.heap.size (.inl (.cells #[.int .i64 (k:Int),.int .i64 (A:Int),.int .i64 (m:Int),.int .i64 (C:Int)] 94 (0,0)))) w7.heap.size=some (.inl (.cells #[.int .i64 (k:Int),.int .i64 (A:Int),.int .i64 (m:Int),.int .i64 (C:Int)] 94 (0,0))):=Reg.put_same _ _ _
       obtain⟨R8,hR8⟩:∃ x,R7.put w7.heap.size (.inl (.cells #[.int .i64 (k:Int),.int .i64 (A:Int),.int .i64 (m:Int),.int .i64 (C:Int)] 94 (0,0)))=x:=⟨_,rfl⟩
       obtain⟨w8,hw8⟩:∃ x,w7.alloc (.cells #[.int .i64 (k:Int),.int .i64 (A:Int),.int .i64 (m:Int),.int .i64 (C:Int)] 94)=x:=⟨_,rfl⟩
       obtain⟨ar,har⟩:∃ x,w7.heap.size=x:=⟨_,rfl⟩
       rw[hR8,har] at hAr0
       rw[hR8,hw8] at HD9
       have HAr:=Lib.hid hAr0
       have a0:w8.cell? ⟨ar,0,none⟩=some (.int .i64 (k:Int)):=by rw[←hw8,←har];simp
       go_upto_region 8 with fail
       try rw[hw8]
       try rw[har]
       have hblk:w8.heap[ar]?=some (.cells #[.int .i64 (k:Int),.int .i64 (A:Int),.int .i64 (m:Int),.int .i64 (C:Int)] 94):=HD9.out.ev.inv _ _ hAr0
       have a0:=cells_at hblk 0
       have a1:=cells_at hblk 1
       have a2:=cells_at hblk 2
       have a3:=cells_at hblk 3
       simp at a0 a1 a2 a3
       have hN0:0<n:=by omega
       clear hAr0 hPut hArN hblk HD7 HD8 hR8 hw8 har
       go_wp2_with fail
       go_loopg [80] 2 (fun g v80 wr=>∃ (i:Nat) (R':Reg) (X:List Nat),i≤2∧2-i≤g∧DraftAt R w R' wr b p X∧R' ar=some (.inl (.cells #[.int .i64 (k:Int),.int .i64 (A:Int),.int .i64 (m:Int),.int .i64 (C:Int)] 94 (0,0)))∧X.length=n∧((i=0∧v80=.int .i64 0∧X=s)∨(i=1∧v80=.int .i64 1∧X=s.set I1 S1)∨(i=2∧v80=.int .i64 2∧X=(s.set I1 S1).set I2 S2)))
       case atStart=>exact⟨0,R8,s,by omega,by omega,HD9.out,HAr.out,HNe.out,by simp⟩
       case round=>
        clear a0 a1 a2 a3 HD9 HAr
        obtain⟨i,R',X,hi,hg,hdr,har,hxn,hst⟩:=hrel
        rcases hst with ⟨rfl,rfl,hX⟩|⟨rfl,rfl,hX⟩|⟨rfl,rfl,hX⟩
        ·have HX:=Lib.hid hX
         have hW:=hdr.step ((Ev.refl hdr.ev.inv).alloc (.cells #[.int .i64 (k:Int),.int .i64 (A:Int)] 93))
         have hnb:R' wr.heap.size=none:=hdr.ev.inv.none_of_ge (Nat.le_refl _)
         obtain⟨g,cap,hal0⟩:=hdr.along hxn hN0
         have hgl:g<wr.heap.size:=lt_of_cell ((hal0 _ _ (Ev.refl hdr.ev.inv)).2.2.1 I1 x1).1
         have hal:=fun R2 w2 (he:Ev R' (wr.alloc (.cells #[.int .i64 (k:Int),.int .i64 (A:Int)] 93)) R2 w2)=>hal0 R2 w2 (((Ev.refl hdr.ev.inv).alloc (.cells #[.int .i64 (k:Int),.int .i64 (A:Int)] 93)).trans he)
         have hC:=fun R2 w2 (he:Ev R' (wr.alloc (.cells #[.int .i64 (k:Int),.int .i64 (A:Int)] 93)) R2 w2)=>(show w2.cell? ⟨wr.heap.size,0,none⟩=some (.int .i64 (k:Int))∧(w2.setCell ⟨g,I1,none⟩ (.int .i64 (S1:Int))).cell? ⟨b,1,none⟩=some (.slice (some ⟨g,0,none⟩) n cap)∧(w2.setCell ⟨g,I1,none⟩ (.int .i64 (S1:Int))).cell? ⟨wr.heap.size,0,none⟩=some (.int .i64 (k:Int)) from by
          have h:=(he.block wr.heap.size (by simp) hnb).trans (heap_alloc_new _ _)
          have h2:(w2.setCell ⟨g,I1,none⟩ (.int .i64 (S1:Int))).heap[wr.heap.size]?=_:=(Below.heap_setCell _ _ _ _ (by show wr.heap.size≠g;omega)).trans h
          exact⟨cells_at h 0,((hal _ _ he).2.2.2 I1 S1 x1).2,cells_at h2 0⟩)
         have hx2:=Lib.hid hxn
         go_upto_region 11 with fail
         obtain⟨wy,hwy⟩:∃ x,wr.alloc (.cells #[.int .i64 (k:Int),.int .i64 (A:Int)] 93)=x:=⟨_,rfl⟩
         obtain⟨yb,hyb⟩:∃ x,wr.heap.size=x:=⟨_,rfl⟩
         rw[hwy] at hC hW hal ⊢
         rw[hyb] at hC ⊢
         have HC:=Lib.hid hC
         have HAl:=Lib.hid hal
         have HW:=Lib.hid hW
         have HEd:=Lib.hid ((Ev.refl hW.ev.inv).drew)
         have HAr:=Lib.hid har
         have hir:(I1:Int)<(n:Int):=by omega
         clear hC hal hal0 hW hnb hdr hX har hwy hyb hxn hgl
         obtain⟨c0,c1,hcc,_⟩:=HAl.out _ _ HEd.out
         obtain⟨k1,f1⟩:=hcc I1 x1
         obtain⟨yc0,yd1,yd0⟩:=HC.out _ _ HEd.out
         clear hcc
         go_region_held3 (fun w'=>w'.cell? ⟨b,1,none⟩=some (.slice (some ⟨g,0,none⟩) n cap)∧w'.cell? ⟨yb,0,none⟩=some (.int .i64 (k:Int))) (first|exact⟨c1,yc0⟩|exact⟨yd1,yd0⟩) (first|(go_at_call 59;refine (RR1.out _ _ (HW.out.ev.trans HEd.out)).mono ?_;rintro z wa ⟨rfl,Ra,hea⟩;have HEd:=Lib.hid (HEd.out.trans hea);clear hea;obtain⟨c0,c1,hcc,_⟩:=HAl.out _ _ HEd.out;obtain⟨k1,f1⟩:=hcc I1 x1;obtain⟨yc0,yd1,yd0⟩:=HC.out _ _ HEd.out;clear hcc)|(go_at_call 58;refine (HG1.out _ _ (HW.out.ev.trans HEd.out)).mono ?_;rintro z w' ⟨rfl,rfl⟩))
         all_goals (go_wp2_with fail)
         all_goals go_roundg (2-(0+1))
         all_goals first|(have hgo:=hg;omega)|exact⟨0+1,_,_,by omega,by omega,((HAl.out _ _ HEd.out).2.2.2 I1 S1 x1).1,HEd.out.reg _ _ HAr.out,by rw[List.length_set];exact hx2.out,by rw[HX.out];simp⟩
        ·have HX:=Lib.hid hX
         have hW:=hdr.step ((Ev.refl hdr.ev.inv).alloc (.cells #[.int .i64 (m:Int),.int .i64 (C:Int)] 93))
         have hnb:R' wr.heap.size=none:=hdr.ev.inv.none_of_ge (Nat.le_refl _)
         obtain⟨g,cap,hal0⟩:=hdr.along hxn hN0
         have hgl:g<wr.heap.size:=lt_of_cell ((hal0 _ _ (Ev.refl hdr.ev.inv)).2.2.1 I2 x2).1
         have hal:=fun R2 w2 (he:Ev R' (wr.alloc (.cells #[.int .i64 (m:Int),.int .i64 (C:Int)] 93)) R2 w2)=>hal0 R2 w2 (((Ev.refl hdr.ev.inv).alloc (.cells #[.int .i64 (m:Int),.int .i64 (C:Int)] 93)).trans he)
         have hC:=fun R2 w2 (he:Ev R' (wr.alloc (.cells #[.int .i64 (m:Int),.int .i64 (C:Int)] 93)) R2 w2)=>(show w2.cell? ⟨wr.heap.size,0,none⟩=some (.int .i64 (m:Int))∧(w2.setCell ⟨g,I2,none⟩ (.int .i64 (S2:Int))).cell? ⟨b,1,none⟩=some (.slice (some ⟨g,0,none⟩) n cap)∧(w2.setCell ⟨g,I2,none⟩ (.int .i64 (S2:Int))).cell? ⟨wr.heap.size,0,none⟩=some (.int .i64 (m:Int)) from by
          have h:=(he.block wr.heap.size (by simp) hnb).trans (heap_alloc_new _ _)
          have h2:(w2.setCell ⟨g,I2,none⟩ (.int .i64 (S2:Int))).heap[wr.heap.size]?=_:=(Below.heap_setCell _ _ _ _ (by show wr.heap.size≠g;omega)).trans h
          exact⟨cells_at h 0,((hal _ _ he).2.2.2 I2 S2 x2).2,cells_at h2 0⟩)
         have hx2:=Lib.hid hxn
         go_upto_region 11 with fail
         obtain⟨wy,hwy⟩:∃ x,wr.alloc (.cells #[.int .i64 (m:Int),.int .i64 (C:Int)] 93)=x:=⟨_,rfl⟩
         obtain⟨yb,hyb⟩:∃ x,wr.heap.size=x:=⟨_,rfl⟩
         rw[hwy] at hC hW hal ⊢
         rw[hyb] at hC ⊢
         have HC:=Lib.hid hC
         have HAl:=Lib.hid hal
         have HW:=Lib.hid hW
         have HEd:=Lib.hid ((Ev.refl hW.ev.inv).drew)
         have HAr:=Lib.hid har
         have hir:(I2:Int)<(n:Int):=by omega
         clear hC hal hal0 hW hnb hdr hX har hwy hyb hxn hgl
         obtain⟨c0,c1,hcc,_⟩:=HAl.out _ _ HEd.out
         obtain⟨k1,f1⟩:=hcc I2 x2
         obtain⟨yc0,yd1,yd0⟩:=HC.out _ _ HEd.out
         clear hcc
         go_region_held3 (fun w'=>w'.cell? ⟨b,1,none⟩=some (.slice (some ⟨g,0,none⟩) n cap)∧w'.cell? ⟨yb,0,none⟩=some (.int .i64 (m:Int))) (first|exact⟨c1,yc0⟩|exact⟨yd1,yd0⟩) (first|(go_at_call 59;refine (RR2.out _ _ (HW.out.ev.trans HEd.out)).mono ?_;rintro z wa ⟨rfl,Ra,hea⟩;have HEd:=Lib.hid (HEd.out.trans hea);clear hea;obtain⟨c0,c1,hcc,_⟩:=HAl.out _ _ HEd.out;obtain⟨k1,f1⟩:=hcc I2 x2;obtain⟨yc0,yd1,yd0⟩:=HC.out _ _ HEd.out;clear hcc)|(go_at_call 58;refine (HG2.out _ _ (HW.out.ev.trans HEd.out)).mono ?_;rintro z w' ⟨rfl,rfl⟩))
         all_goals (go_wp2_with fail)
         all_goals go_roundg (2-(1+1))
         all_goals first|(have hgo:=hg;omega)|exact⟨1+1,_,_,by omega,by omega,((HAl.out _ _ HEd.out).2.2.2 I2 S2 x2).1,HEd.out.reg _ _ HAr.out,by rw[List.length_set];exact hx2.out,by rw[HX.out];simp⟩
        ·have HX:=Lib.hid hX
         have HDr:=Lib.hid hdr
         have HAr:=Lib.hid har
         have HXn:=Lib.hid hxn
         have hblk:wr.heap[ar]?=some (.cells #[.int .i64 (k:Int),.int .i64 (A:Int),.int .i64 (m:Int),.int .i64 (C:Int)] 94):=hdr.ev.inv _ _ har
         have a0:=cells_at hblk 0
         have a1:=cells_at hblk 1
         have a2:=cells_at hblk 2
         have a3:=cells_at hblk 3
         simp at a0 a1 a2 a3
         obtain⟨wz,hwz⟩:∃ wz,wz=wr:=⟨_,rfl⟩
         subst hwz
         obtain⟨Rz,hRz⟩:∃ x,x=R':=⟨_,rfl⟩
         subst hRz
         clear hX hdr har hxn hblk
         go_wp2_with fail
         go_loopg [98] 2 (fun g v98 wr=>∃ (i:Nat) (R':Reg) (Y:List Nat),i≤2∧2-i≤g∧DraftAt R w R' wr b p Y∧Y.length=n∧((i=0∧v98=.int .i64 0∧Y=X)∨(i=1∧v98=.int .i64 1∧Y=behindL (X.set k k) k A)∨(i=2∧v98=.int .i64 2∧Y=behindL ((behindL (X.set k k) k A).set m m) m C)))
         case atStart=>exact⟨0,Rz,X,by omega,by omega,HDr.out,HXn.out,by simp⟩
         case round=>
          clear a0 a1 a2 a3 HDr
          obtain⟨i,R',Y,hi,hg,hdr,hyn,hst⟩:=hrel
          rcases hst with ⟨rfl,rfl,hY⟩|⟨rfl,rfl,hY⟩|⟨rfl,rfl,hY⟩
          ·have HY:=Lib.hid hY
           have hW:=hdr.step ((Ev.refl hdr.ev.inv).alloc (.cells #[.int .i64 (k:Int),.int .i64 (A:Int)] 93))
           obtain⟨g,cap,hal⟩:=hdr.along hyn hN0
           have hgl:g<wr.heap.size:=lt_of_cell ((hal _ _ (Ev.refl hdr.ev.inv)).2.2.1 k hk).1
           have hb:(wr.alloc (.cells #[.int .i64 (k:Int),.int .i64 (A:Int)] 93)).heap[wr.heap.size]?=some (.cells #[.int .i64 (k:Int),.int .i64 (A:Int)] 93 (0,0)):=heap_alloc_new _ _
           obtain⟨c0,c1,hcc,hput⟩:=hal _ _ ((Ev.refl hdr.ev.inv).alloc (.cells #[.int .i64 (k:Int),.int .i64 (A:Int)] 93))
           obtain⟨k1,f1⟩:=hcc k hk
           have hd9:=(hput k k hk).1
           go_upto_region 16 with fail
           obtain⟨wy,hwy⟩:∃ x,wr.alloc (.cells #[.int .i64 (k:Int),.int .i64 (A:Int)] 93)=x:=⟨_,rfl⟩
           obtain⟨yb,hyb⟩:∃ x,wr.heap.size=x:=⟨_,rfl⟩
           rw[hwy] at hW hb c0 c1 k1 f1 hd9 ⊢
           rw[hyb] at hb hgl ⊢
           have yc0:=cells_at hb 0
           have yc1:=cells_at hb 1
           have hb9:(wy.setCell ⟨g,k,none⟩ (.int .i64 (k:Int))).drew.heap[yb]?=some (.cells #[.int .i64 (k:Int),.int .i64 (A:Int)] 93 (0,0)):=(Below.heap_setCell _ _ _ _ (by show yb≠g;omega)).trans hb
           simp at yc0 yc1
           have HD9:=Lib.hid hd9.drew
           have HB9:=Lib.hid hb9
           have hyr:(k:Int)<(n:Int):=by omega
           have hx2:=Lib.hid hyn
           have hyl:=Lib.hid (show (Y.set k k).length=n by rw[List.length_set];exact hyn)
           clear hal hput hcc hW hb hdr hY hyn hgl hwy hyb hd9 hb9
           go_region
           go_upto_region 17 with fail
           obtain⟨w9,hw9⟩:∃ x,(wy.setCell ⟨g,k,none⟩ (.int .i64 (k:Int))).drew=x:=⟨_,rfl⟩
           rw[hw9] at HD9 HB9 ⊢
           have yd0:=cells_at HB9.out 0
           have yd1:=cells_at HB9.out 1
           simp at yd0 yd1
           have HBh:=Lib.hid (gbehind_any HD9.out (d:=k) (t:=A) (by have:=hyl.out;omega) (by rw[hyl.out];exact hk) (by rw[hyl.out];exact z3))
           clear hw9 c0 c1 k1 f1 yc0 yc1 HB9
           go_wp2_with fail
           refine HBh.out.mono ?_
           rintro e wb ⟨rfl,hdb⟩
           have HDb:=Lib.hid hdb
           clear hdb HBh yd0 yd1
           go_wp2_with fail
           go_roundg (2-(0+1))
           case measure=>omega
           case rel=>exact⟨0+1,_,_,by omega,by omega,HDb.out,by rw[behindL_length];exact hyl.out,by rw[HY.out];simp⟩
          ·have HY:=Lib.hid hY
           have hW:=hdr.step ((Ev.refl hdr.ev.inv).alloc (.cells #[.int .i64 (m:Int),.int .i64 (C:Int)] 93))
           obtain⟨g,cap,hal⟩:=hdr.along hyn hN0
           have hgl:g<wr.heap.size:=lt_of_cell ((hal _ _ (Ev.refl hdr.ev.inv)).2.2.1 m hmk).1
           have hb:(wr.alloc (.cells #[.int .i64 (m:Int),.int .i64 (C:Int)] 93)).heap[wr.heap.size]?=some (.cells #[.int .i64 (m:Int),.int .i64 (C:Int)] 93 (0,0)):=heap_alloc_new _ _
           obtain⟨c0,c1,hcc,hput⟩:=hal _ _ ((Ev.refl hdr.ev.inv).alloc (.cells #[.int .i64 (m:Int),.int .i64 (C:Int)] 93))
           obtain⟨k1,f1⟩:=hcc m hmk
           have hd9:=(hput m m hmk).1
           go_upto_region 16 with fail
           obtain⟨wy,hwy⟩:∃ x,wr.alloc (.cells #[.int .i64 (m:Int),.int .i64 (C:Int)] 93)=x:=⟨_,rfl⟩
           obtain⟨yb,hyb⟩:∃ x,wr.heap.size=x:=⟨_,rfl⟩
           rw[hwy] at hW hb c0 c1 k1 f1 hd9 ⊢
           rw[hyb] at hb hgl ⊢
           have yc0:=cells_at hb 0
           have yc1:=cells_at hb 1
           have hb9:(wy.setCell ⟨g,m,none⟩ (.int .i64 (m:Int))).drew.heap[yb]?=some (.cells #[.int .i64 (m:Int),.int .i64 (C:Int)] 93 (0,0)):=(Below.heap_setCell _ _ _ _ (by show yb≠g;omega)).trans hb
           simp at yc0 yc1
           have HD9:=Lib.hid hd9.drew
           have HB9:=Lib.hid hb9
           have hyr:(m:Int)<(n:Int):=by omega
           have hx2:=Lib.hid hyn
           have hyl:=Lib.hid (show (Y.set m m).length=n by rw[List.length_set];exact hyn)
           clear hal hput hcc hW hb hdr hY hyn hgl hwy hyb hd9 hb9
           go_region
           go_upto_region 17 with fail
           obtain⟨w9,hw9⟩:∃ x,(wy.setCell ⟨g,m,none⟩ (.int .i64 (m:Int))).drew=x:=⟨_,rfl⟩
           rw[hw9] at HD9 HB9 ⊢
           have yd0:=cells_at HB9.out 0
           have yd1:=cells_at HB9.out 1
           simp at yd0 yd1
           have HBh:=Lib.hid (gbehind_any HD9.out (d:=m) (t:=C) (by have:=hyl.out;omega) (by rw[hyl.out];exact hmk) (by rw[hyl.out];exact y3))
           clear hw9 c0 c1 k1 f1 yc0 yc1 HB9
           go_wp2_with fail
           refine HBh.out.mono ?_
           rintro e wb ⟨rfl,hdb⟩
           have HDb:=Lib.hid hdb
           clear hdb HBh yd0 yd1
           go_wp2_with fail
           go_roundg (2-(1+1))
           case measure=>omega
           case rel=>exact⟨1+1,_,_,by omega,by omega,HDb.out,by rw[behindL_length];exact hyl.out,by rw[HY.out];simp⟩
          ·have HY:=Lib.hid hY
           have HDn:=Lib.hid (gdone_any hdr root lone (hdr.ev.map HP.out) (by omega))
           clear hdr hY
           go_wp2_with fail
           refine HDn.out.mono ?_
           rintro e w9 hpo
           obtain⟨q,c,rfl⟩:=hpo.two
           have HPo:=Lib.hid hpo
           clear hpo HDn
           go_wp2_with fail
           go_ret2
           exact Or.inr (Or.inr ⟨H1.out,HFb2.out,by rw[HFl.out,←HX.out,←HY.out];exact HPo.out⟩)
end
section
open Go.RowKit
set_option linter.unusedVariables false
def wayR (n way:Nat) (d e:Int):Bool:=match way with|1=>inR n d && inR n e|_=>inR n d
noncomputable def wayB (s:List Nat) (way:Nat) (d e:Int):Bool:=match way with|1=>decide (nameI (phiL s) (atI s d)=nameI (phiL s) (atI s e))|4=>flipB s d.toNat|_=>true
def wayL (s:List Nat) (way:Nat) (d e:Int):List Nat:=match way with|0=>leafL s d.toNat|1=>chordL s d.toNat e.toNat|2=>splitL s d.toNat|3=>starL s d.toNat|_=>flipL s d.toNat
theorem ok01:MapOk [0,1] 0 0:=by unfold MapOk;simp
theorem seed_any (R:Reg) (w:World) (hI:Inv R w):Calls Tryz.prog 33 #[] w fun e w'=>∃ p R',e=.returned p∧Ev R w R' w'∧MapAt R' p [0,1] 0 0:=by
 have H1:=Lib.hid (new_yes R _ (hI.alloc _) _ [0,1] (FreeI.two hI 0 1) 0 0 perm01 ok01)
 have HE:=Lib.hid ((Ev.refl hI).alloc (.cells #[.int .i64 0,.int .i64 1] 3))
 clear hI
 go_enter Tryz.func33,Tryz.ntmps33
 go_wp2_with fail
 refine H1.out.mono ?_
 rintro e w2 ⟨p,R2,rfl,he2,hp⟩
 have HE2:=Lib.hid (HE.out.trans he2)
 have HP:=Lib.hid hp
 clear he2 hp
 go_wp2_with fail
 go_ret
 exact⟨p,R2,rfl,HE2.out,HP.out⟩
theorem leaf01:leafL [0,1] 0=[2,1,0,3]:=by decide
theorem perm2103:IsPerm [2,1,0,3]:=⟨by decide,by decide⟩
theorem sizes2103:(sizesL [2,1,0,3]).length=3:=by decide +kernel
end
section
open Go.RowKit
set_option linter.unusedVariables false
def ActPost (R:Reg) (w:World) (code:Int) (M:List Nat) (root lone:Int) (e:Ending) (w':World):Prop:=
 ∃ q R',e=.returned (.tuple #[q,.int .i64 code])∧Ev R w R' w'∧(code≠0→q=.pointer none)∧(code=0→MapAt R' q M root lone)
theorem ActPost.older {R R1:Reg} {w w1 w':World} {code:Int} {M:List Nat} {root lone:Int} {e:Ending} (he:Ev R w R1 w1) (h:ActPost R1 w1 code M root lone e w'):ActPost R w code M root lone e w':=by
 obtain⟨q,R',e1,h1,h2,h3⟩:=h
 exact⟨q,R',e1,he.trans h1,h2,h3⟩
theorem ActPost.two {R:Reg} {w w':World} {code:Int} {M:List Nat} {root lone:Int} {e:Ending} (h:ActPost R w code M root lone e w'):∃ q c,e=.returned (.tuple #[q,.int .i64 c]):=by
 obtain⟨q,R',e1,_⟩:=h
 exact⟨q,code,e1⟩
noncomputable def wayC (s:List Nat) (root lone:Int) (way:Nat) (d e:Int):Int:=if wayR s.length way d e=false then 1 else if wayB s way d e=false then 8 else newErr (toI (wayL s way d e)) root lone
theorem WayPost.act {R:Reg} {w w':World} {a b:Bool} {L:List Nat} {root lone:Int} {e:Ending} (k:WayPost R w a b L root lone e w'):ActPost R w (if a=false then 1 else if b=false then 8 else newErr (toI L) root lone) L root lone e w':=by
 rcases k with ⟨h1,h2,R',h3⟩|⟨h1,h2,h3,R',h4⟩|⟨h1,h2,h3⟩
 ·rw[if_pos h1];exact⟨_,R',h2,h3,fun _=>rfl,fun h=>by omega⟩
 ·rw[if_neg (by rw[h1];simp),if_pos h2];exact⟨_,R',h3,h4,fun _=>rfl,fun h=>by omega⟩
 ·rw[if_neg (by rw[h1];simp),if_neg (by rw[h2];simp)]
  rcases h3 with ⟨n1,n2,R',n3⟩|⟨n1,S,p,R',n2,n3,n4,n5,n6,n7⟩
  ·exact⟨_,R',n2,n3,fun _=>rfl,fun h=>absurd h n1⟩
  ·obtain rfl:=toI_inj n3
   exact⟨p,R',by rw[n5,n1],n6,fun h=>absurd n1 h,fun _=>n7⟩
theorem RootedPost.act {R:Reg} {w w':World} {s:List Nat} {lone d:Int} {e:Ending} (k:RootedPost R w s lone d e w'):ActPost R w (if inR s.length d=true then 0 else 5) s d lone e w':=by
 unfold inR
 rcases k with ⟨h1,h2,R',h3⟩|⟨h1,h2,p,R',h3,h4,h5⟩
 ·rw[if_neg (by rw[decide_eq_true_eq];omega)];exact⟨_,R',h2,h3,fun _=>rfl,fun h=>by omega⟩
 ·rw[if_pos (by rw[decide_eq_true_eq];omega)];exact⟨p,R',h3,h4,fun h=>absurd rfl h,fun _=>h5⟩
theorem NewYes.act {R:Reg} {w w':World} {S:List Nat} {root lone:Int} {e:Ending} (k:NewYes R w S root lone e w'):ActPost R w 0 S root lone e w':=by
 obtain⟨p,R',h1,h2,h3⟩:=k
 exact⟨p,R',h1,h2,fun h=>absurd rfl h,fun _=>h3⟩
set_option maxRecDepth 100000 in
theorem at_0 (w:World) (p:Value) (b:Nat) (hb:w.cell? ⟨b,0,none⟩=some (.func (.func 43) #[] #[])) (kd D E:Int) (Q:Ending→World→Prop) (hQ:∀ e w',Q e w'→∃ q c,e=.returned (.tuple #[q,.int .i64 c]))
  (HF:Calls Tryz.prog 43 #[p,.int .i64 D] (w.alloc (.cells #[.int .i64 kd,.int .i64 D,.int .i64 E] 50)) Q):Calls Tryz.prog 132 #[p,.agg #[.int .i64 kd,.int .i64 D,.int .i64 E],.pointer (some ⟨b,0,none⟩)] w Q:=by
 have HF:=Lib.hid HF
 have hlt:=lt_of_cell hb
 go_enter Tryz.func132,Tryz.ntmps132
 go_wp2_with fail
 refine HF.out.mono ?_
 rintro e w' hpo
 obtain⟨q,c,rfl⟩:=hQ e w' hpo
 have HPo:=Lib.hid hpo
 clear hpo
 go_wp2_with fail
 first|exact HPo.out|(go_ret2;exact HPo.out)
set_option maxRecDepth 100000 in
theorem at_2 (w:World) (p:Value) (b:Nat) (hb:w.cell? ⟨b,0,none⟩=some (.func (.func 63) #[] #[])) (kd D E:Int) (Q:Ending→World→Prop) (hQ:∀ e w',Q e w'→∃ q c,e=.returned (.tuple #[q,.int .i64 c]))
  (HF:Calls Tryz.prog 63 #[p,.int .i64 D] (w.alloc (.cells #[.int .i64 kd,.int .i64 D,.int .i64 E] 50)) Q):Calls Tryz.prog 132 #[p,.agg #[.int .i64 kd,.int .i64 D,.int .i64 E],.pointer (some ⟨b,0,none⟩)] w Q:=by
 have HF:=Lib.hid HF
 have hlt:=lt_of_cell hb
 go_enter Tryz.func132,Tryz.ntmps132
 go_wp2_with fail
 refine HF.out.mono ?_
 rintro e w' hpo
 obtain⟨q,c,rfl⟩:=hQ e w' hpo
 have HPo:=Lib.hid hpo
 clear hpo
 go_wp2_with fail
 first|exact HPo.out|(go_ret2;exact HPo.out)
set_option maxRecDepth 100000 in
theorem at_3 (w:World) (p:Value) (b:Nat) (hb:w.cell? ⟨b,0,none⟩=some (.func (.func 12) #[] #[])) (kd D E:Int) (Q:Ending→World→Prop) (hQ:∀ e w',Q e w'→∃ q c,e=.returned (.tuple #[q,.int .i64 c]))
  (HF:Calls Tryz.prog 12 #[p,.int .i64 D] (w.alloc (.cells #[.int .i64 kd,.int .i64 D,.int .i64 E] 50)) Q):Calls Tryz.prog 132 #[p,.agg #[.int .i64 kd,.int .i64 D,.int .i64 E],.pointer (some ⟨b,0,none⟩)] w Q:=by
 have HF:=Lib.hid HF
 have hlt:=lt_of_cell hb
 go_enter Tryz.func132,Tryz.ntmps132
 go_wp2_with fail
 refine HF.out.mono ?_
 rintro e w' hpo
 obtain⟨q,c,rfl⟩:=hQ e w' hpo
 have HPo:=Lib.hid hpo
 clear hpo
 go_wp2_with fail
 first|exact HPo.out|(go_ret2;exact HPo.out)
set_option maxRecDepth 100000 in
theorem at_4 (w:World) (p:Value) (b:Nat) (hb:w.cell? ⟨b,0,none⟩=some (.func (.func 16) #[] #[])) (kd D E:Int) (Q:Ending→World→Prop) (hQ:∀ e w',Q e w'→∃ q c,e=.returned (.tuple #[q,.int .i64 c]))
  (HF:Calls Tryz.prog 16 #[p,.int .i64 D] (w.alloc (.cells #[.int .i64 kd,.int .i64 D,.int .i64 E] 50)) Q):Calls Tryz.prog 132 #[p,.agg #[.int .i64 kd,.int .i64 D,.int .i64 E],.pointer (some ⟨b,0,none⟩)] w Q:=by
 have HF:=Lib.hid HF
 have hlt:=lt_of_cell hb
 go_enter Tryz.func132,Tryz.ntmps132
 go_wp2_with fail
 refine HF.out.mono ?_
 rintro e w' hpo
 obtain⟨q,c,rfl⟩:=hQ e w' hpo
 have HPo:=Lib.hid hpo
 clear hpo
 go_wp2_with fail
 first|exact HPo.out|(go_ret2;exact HPo.out)
set_option maxRecDepth 100000 in
theorem at_5 (w:World) (p:Value) (b:Nat) (hb:w.cell? ⟨b,0,none⟩=some (.func (.func 107) #[] #[])) (kd D E:Int) (Q:Ending→World→Prop) (hQ:∀ e w',Q e w'→∃ q c,e=.returned (.tuple #[q,.int .i64 c]))
  (HF:Calls Tryz.prog 107 #[p,.int .i64 D] (w.alloc (.cells #[.int .i64 kd,.int .i64 D,.int .i64 E] 50)) Q):Calls Tryz.prog 132 #[p,.agg #[.int .i64 kd,.int .i64 D,.int .i64 E],.pointer (some ⟨b,0,none⟩)] w Q:=by
 have HF:=Lib.hid HF
 have hlt:=lt_of_cell hb
 go_enter Tryz.func132,Tryz.ntmps132
 go_wp2_with fail
 refine HF.out.mono ?_
 rintro e w' hpo
 obtain⟨q,c,rfl⟩:=hQ e w' hpo
 have HPo:=Lib.hid hpo
 clear hpo
 go_wp2_with fail
 first|exact HPo.out|(go_ret2;exact HPo.out)
set_option maxRecDepth 100000 in
theorem at_6 (w:World) (p:Value) (b:Nat) (hb:w.cell? ⟨b,0,none⟩=some (.func (.func 109) #[] #[])) (kd D E:Int) (Q:Ending→World→Prop)
  (HF:Calls Tryz.prog 109 #[p] (w.alloc (.cells #[.int .i64 kd,.int .i64 D,.int .i64 E] 50)) fun e w'=>∃ q,e=.returned q∧Q (.returned (.tuple #[q,.int .i64 0])) w'):Calls Tryz.prog 133 #[p,.agg #[.int .i64 kd,.int .i64 D,.int .i64 E],.pointer (some ⟨b,0,none⟩)] w Q:=by
 have HF:=Lib.hid HF
 have hlt:=lt_of_cell hb
 go_enter Tryz.func133,Tryz.ntmps133
 go_wp2_with fail
 refine HF.out.mono ?_
 rintro e w' ⟨q,rfl,hpo⟩
 have HPo:=Lib.hid hpo
 clear hpo
 go_wp2_with fail
 first|exact HPo.out|(go_ret2;exact HPo.out)
set_option maxRecDepth 100000 in
theorem at_7 (w:World) (p:Value) (b:Nat) (hb:w.cell? ⟨b,0,none⟩=some (.func (.func 110) #[] #[])) (kd D E:Int) (Q:Ending→World→Prop)
  (HF:Calls Tryz.prog 110 #[p] (w.alloc (.cells #[.int .i64 kd,.int .i64 D,.int .i64 E] 50)) fun e w'=>∃ q,e=.returned q∧Q (.returned (.tuple #[q,.int .i64 0])) w'):Calls Tryz.prog 133 #[p,.agg #[.int .i64 kd,.int .i64 D,.int .i64 E],.pointer (some ⟨b,0,none⟩)] w Q:=by
 have HF:=Lib.hid HF
 have hlt:=lt_of_cell hb
 go_enter Tryz.func133,Tryz.ntmps133
 go_wp2_with fail
 refine HF.out.mono ?_
 rintro e w' ⟨q,rfl,hpo⟩
 have HPo:=Lib.hid hpo
 clear hpo
 go_wp2_with fail
 first|exact HPo.out|(go_ret2;exact HPo.out)
set_option maxRecDepth 100000 in
set_option maxHeartbeats 2000000 in
theorem at_8 (w:World) (p:Value) (b:Nat) (hb:w.cell? ⟨b,0,none⟩=some (.func (.func 22) #[] #[])) (kd E:Int) (D q0:Nat) (hq0:wrap64 ((D:Int) / 2)=(q0:Int)) (Q:Ending→World→Prop) (hQ:∀ e w',Q e w'→∃ q c,e=.returned (.tuple #[q,.int .i64 c]))
  (HF:Calls Tryz.prog 22 #[p,.int .i64 (q0:Int)] (w.alloc (.cells #[.int .i64 kd,.int .i64 (D:Int),.int .i64 E] 50)) Q):Calls Tryz.prog 135 #[p,.agg #[.int .i64 kd,.int .i64 (D:Int),.int .i64 E],.pointer (some ⟨b,0,none⟩)] w Q:=by
 have HF:=Lib.hid HF
 have hlt:=lt_of_cell hb
 have hd:decide ((D:Int)<0)=false:=by simp
 have HQ0:=Lib.hid hq0
 clear hq0
 go_enter Tryz.func135,Tryz.ntmps135
 go_wp2_with fail
 rw[HQ0.out]
 refine HF.out.mono ?_
 rintro e w' hpo
 obtain⟨q,c,rfl⟩:=hQ e w' hpo
 have HPo:=Lib.hid hpo
 clear hpo
 go_wp2_with fail
 first|exact HPo.out|(go_ret2;exact HPo.out)
set_option maxRecDepth 100000 in
set_option maxHeartbeats 2000000 in
theorem at_9 (w:World) (p:Value) (b:Nat) (hb:w.cell? ⟨b,0,none⟩=some (.func (.func 20) #[] #[])) (kd E:Int) (D q0:Nat) (hq0:wrap64 ((D:Int) / 2)=(q0:Int)) (Q:Ending→World→Prop) (hQ:∀ e w',Q e w'→∃ q c,e=.returned (.tuple #[q,.int .i64 c]))
  (HF:Calls Tryz.prog 20 #[p,.int .i64 (q0:Int)] (w.alloc (.cells #[.int .i64 kd,.int .i64 (D:Int),.int .i64 E] 50)) Q):Calls Tryz.prog 135 #[p,.agg #[.int .i64 kd,.int .i64 (D:Int),.int .i64 E],.pointer (some ⟨b,0,none⟩)] w Q:=by
 have HF:=Lib.hid HF
 have hlt:=lt_of_cell hb
 have hd:decide ((D:Int)<0)=false:=by simp
 have HQ0:=Lib.hid hq0
 clear hq0
 go_enter Tryz.func135,Tryz.ntmps135
 go_wp2_with fail
 rw[HQ0.out]
 refine HF.out.mono ?_
 rintro e w' hpo
 obtain⟨q,c,rfl⟩:=hQ e w' hpo
 have HPo:=Lib.hid hpo
 clear hpo
 go_wp2_with fail
 first|exact HPo.out|(go_ret2;exact HPo.out)
set_option maxRecDepth 100000 in
theorem edge_no (w:World) (p:Value) (b:Nat) (kd D E:Int) (hD:D<0):Calls Tryz.prog 135 #[p,.agg #[.int .i64 kd,.int .i64 D,.int .i64 E],.pointer (some ⟨b,0,none⟩)] w fun e w'=>e=.returned (.tuple #[.pointer none,.int .i64 1])∧w'=w.alloc (.cells #[.int .i64 kd,.int .i64 D,.int .i64 E] 50):=by
 have hd:decide (D<0)=true:=by simp;omega
 go_enter Tryz.func135,Tryz.ntmps135
 go_wp2_with fail
 go_ret2
 exact⟨rfl,rfl⟩
set_option maxRecDepth 100000 in
theorem at_1 (w:World) (p:Value) (kd D E:Int) (Q:Ending→World→Prop) (hQ:∀ e w',Q e w'→∃ q c,e=.returned (.tuple #[q,.int .i64 c]))
  (HF:Calls Tryz.prog 62 #[p,.int .i64 D,.int .i64 E] (w.alloc (.cells #[.int .i64 kd,.int .i64 D,.int .i64 E] 50)) Q):Calls Tryz.prog 106 #[p,.agg #[.int .i64 kd,.int .i64 D,.int .i64 E]] w Q:=by
 have HF:=Lib.hid HF
 go_enter Tryz.func106,Tryz.ntmps106
 go_wp2_with fail
 refine HF.out.mono ?_
 rintro e w' hpo
 obtain⟨q,c,rfl⟩:=hQ e w' hpo
 have HPo:=Lib.hid hpo
 clear hpo
 go_wp2_with fail
 first|exact HPo.out|(go_ret2;exact HPo.out)
set_option maxRecDepth 100000 in
theorem at_10 (w:World) (p:Value) (kd D E:Int) (Q:Ending→World→Prop)
  (HF:Calls Tryz.prog 113 #[p] (w.alloc (.cells #[.int .i64 kd,.int .i64 D,.int .i64 E] 50)) fun e w'=>∃ q pm c,e=.returned (.tuple #[q,pm,.int .i64 c])∧Q (.returned (.tuple #[q,.int .i64 c])) w'):Calls Tryz.prog 112 #[p,.agg #[.int .i64 kd,.int .i64 D,.int .i64 E]] w Q:=by
 have HF:=Lib.hid HF
 go_enter Tryz.func112,Tryz.ntmps112
 go_wp2_with fail
 refine HF.out.mono ?_
 rintro e w' ⟨q,pm,c,rfl,hpo⟩
 have HPo:=Lib.hid hpo
 clear hpo
 go_wp2_with fail
 first|exact HPo.out|(go_ret2;exact HPo.out)
end
end Go.Proofs.YtklkgicjfnbndaaGreat
