/- grow.Flip. -/
import Derived.Test.YtklkgicjfnbndaaGreatZU30
import Derived.Test.YtklkgicjfnbndaaGreatZU35
namespace Go.Proofs.YtklkgicjfnbndaaGreat
section
open Go.RowKit
set_option linter.unusedVariables false
theorem DraftAt.along {R0 R:Reg} {w0 w:World} {b:Nat} {p:Value} {L:List Nat} (h:DraftAt R0 w0 R w b p L) {n:Nat} (hn:L.length=n) (h0:0<n):
  ∃ g cap,∀ R' w',Ev R w R' w'→w'.cell? ⟨b,0,none⟩=some p∧w'.cell? ⟨b,1,none⟩=some (.slice (some ⟨g,0,none⟩) n cap) ∧
   (∀ i,i<n→w'.cell? ⟨g,i,none⟩=some (.int .i64 ((at' L i:Nat):Int))∧w'.frozen? ⟨g,i,none⟩=false) ∧
   (∀ i y,i<n→DraftAt R0 w0 R' (w'.setCell ⟨g,i,none⟩ (.int .i64 ((y:Nat):Int))) b p (L.set i y)∧(w'.setCell ⟨g,i,none⟩ (.int .i64 ((y:Nat):Int))).cell? ⟨b,1,none⟩=some (.slice (some ⟨g,0,none⟩) n cap)):=by
 obtain⟨a,cap,h1,h2,h3⟩:=h.ex
 rw[hn] at h1 h2 h3
 obtain⟨g,rfl,_⟩:=h2.headAt (by rw[toI_length];exact hn) h0
 refine⟨g,cap,fun R' w' he=>?_⟩
 have h1':=(he.block b (lt_of_block h1) h.nb).trans h1
 have h2':=h2.ev he
 obtain⟨c0,c1,hf⟩:=draft_cells h1'
 refine⟨c0,c1,fun i hi=>?_,fun i y hi=>?_⟩
 ·obtain⟨g',e,_,_,k1,k2⟩:=h2'.headAt (by rw[toI_length];exact hn) hi
  cases e
  rw[toI_nth] at k1
  exact⟨k1,k2⟩
 ·obtain⟨q1,q2,_⟩:=DraftAt.put (h.step he) hn h1' h2' h3 rfl hi y
  exact⟨q1,(draft_cells q2).2.1⟩
def flipL (s:List Nat) (d:Nat):List Nat:=
 let m:=d ^^^ 1
 let a:=at' (invL s) (at' (phiL s) (at' (phiL s) d))
 let b:=at' (invL s) (at' (phiL s) (at' (phiL s) m))
 let L1:=(s.set (at' (invL s) d) (at' s d)).set (at' (invL s) m) (at' s m)
 behindL ((behindL (L1.set d d) d a).set m m) m b
def flipB (s:List Nat) (d:Nat):Bool:=
 decide ((orbI (phiL s) (d:Int)).length=3) && decide ((orbI (phiL s) ((d ^^^ 1:Nat):Int)).length=3) && !decide (nameI (phiL s) (d:Int)=nameI (phiL s) ((d ^^^ 1:Nat):Int)) && !decide (at' s d=d) && !decide (at' s (d ^^^ 1)=d ^^^ 1)
set_option maxRecDepth 100000 in
set_option maxHeartbeats 1200000 in
theorem flip_any (R:Reg) (w:World) (hI:Inv R w) (p:Value) (s:List Nat) (root lone:Int) (hp:MapAt R p s root lone) (d:Int):
  Calls Tryz.prog 16 #[p,.int .i64 d] w (WayPost R w (inR s.length d) (flipB s d.toNat) (flipL s d.toNat) root lone):=by
 obtain⟨hS,hok⟩:=hp.ok hI
 have hn:s.length≤131073:=hok.2.1
 have HOf:=Lib.hid (gof_one R w hI p s root lone hp d)
 have HP:=Lib.hid hp
 have HMt:=Lib.hid (fun R' w' (h:Ev R w R' w') d=>mate_any R' w' h.inv p s root lone (h.map hp) d)
 have HTr:=Lib.hid (fun R' w' (h:Ev R w R' w') d=>gtri_any R' w' h.inv p s root lone (h.map hp) d)
 have HFc:=Lib.hid (fun R' w' (h:Ev R w R' w') d=>face_any R' w' h.inv p s root lone (h.map hp) d)
 have HSg:=Lib.hid (fun R' w' (h:Ev R w R' w') (d:Nat) (hd:d<s.length)=>(by
  have h:=sigma_any R' w' h.inv p s root lone (h.map hp) (d:Int)
  rw[atI_in hd] at h
  exact h:Calls Tryz.prog 58 #[p,.int .i64 (d:Int)] w' fun e w2=>e=.returned (.int .i64 ((at' s d:Nat):Int))∧w'=w2))
 have HPi:=Lib.hid (fun R' w' (h:Ev R w R' w') (d:Nat) (hd:d<s.length)=>(by
  have h:=phi_any R' w' h.inv p s root lone (h.map hp) (d:Int)
  rw[atI_in (by rw[phiL_length];exact hd)] at h
  exact h:Calls Tryz.prog 54 #[p,.int .i64 (d:Int)] w' fun e w2=>e=.returned (.int .i64 ((at' (phiL s) d:Nat):Int))∧w'=w2))
 have HBk:=Lib.hid (fun R' w' (h:Ev R w R' w') (d:Nat) (hd:d<s.length)=>(by
  have h:=mback_any R' w' h.inv p s root lone (h.map hp) (d:Int)
  rw[backI_in hd] at h
  exact h:Calls Tryz.prog 59 #[p,.int .i64 (d:Int)] w' (RetV R' w' (.int .i64 ((at' (invL s) d:Nat):Int)))))
 have HEv:=Lib.hid hok.1
 have hiv:=invL_perm hS
 have hil:=invL_length s
 have hph:=phiL_perm hS hok.1
 have hivl:∀ i,i<s.length→at' (invL s) i<s.length:=fun i hi=>by have:=hiv.lt (i:=i) (by rw[hil];exact hi);omega
 have hphl:∀ i,i<s.length→at' (phiL s) i<s.length:=fun i hi=>by have:=hph.lt (i:=i) (by rw[phiL_length];exact hi);rw[phiL_length] at this;exact this
 have HIv:=Lib.hid hivl
 have HPh:=Lib.hid hphl
 have HSl:=Lib.hid (fun i (hi:i<s.length)=>hS.lt hi)
 clear hI hp hS hok hiv hil hph hivl hphl
 go_enter Tryz.func16,Tryz.ntmps16
 go_wp2_with fail
 refine HOf.out.mono ?_
 rintro e w1 (⟨h1,rfl,he⟩|⟨h1,b,rfl,hd⟩)
 ·have HE:=Lib.hid he
  have H1:=Lib.hid h1
  clear he h1
  go_wp2_with fail
  go_ret2
  exact Or.inl ⟨H1.out,rfl,R,HE.out⟩
 ·obtain⟨k,rfl,hk⟩:=inR_nat h1
  have HD1:=Lib.hid hd
  have H1:=Lib.hid h1
  have hmk:=xor_one_lt HEv.out hk
  have hm:=mateI_in hk
  have hfb:flipB s (k:Int).toNat=(decide ((orbI (phiL s) (k:Int)).length=3) && decide ((orbI (phiL s) ((k ^^^ 1:Nat):Int)).length=3) && !decide (nameI (phiL s) (k:Int)=nameI (phiL s) ((k ^^^ 1:Nat):Int)) && !decide (at' s k=k) && !decide (at' s (k ^^^ 1)=k ^^^ 1)):=by
   unfold flipB;rw[Int.toNat_natCast]
  have hfl:flipL s (k:Int).toNat=behindL ((behindL (((s.set (at' (invL s) k) (at' s k)).set (at' (invL s) (k ^^^ 1)) (at' s (k ^^^ 1))).set k k) k (at' (invL s) (at' (phiL s) (at' (phiL s) k)))).set (k ^^^ 1) (k ^^^ 1)) (k ^^^ 1) (at' (invL s) (at' (phiL s) (at' (phiL s) (k ^^^ 1)))):=by
   simp only[flipL,Int.toNat_natCast]
  obtain⟨m,hme⟩:∃ m,k ^^^ 1=m:=⟨_,rfl⟩
  rw[hme] at hmk hm hfb hfl
  obtain⟨n,hne⟩:∃ n,s.length=n:=⟨_,rfl⟩
  have HNe:=Lib.hid hne
  have HM:=Lib.hid hm
  obtain⟨B1,hB1⟩:∃ x,decide ((orbI (phiL s) (k:Int)).length=3)=x:=⟨_,rfl⟩
  obtain⟨B2,hB2⟩:∃ x,decide ((orbI (phiL s) (m:Int)).length=3)=x:=⟨_,rfl⟩
  obtain⟨N1,hN1⟩:∃ x,nameI (phiL s) (k:Int)=x:=⟨_,rfl⟩
  obtain⟨N2,hN2⟩:∃ x,nameI (phiL s) (m:Int)=x:=⟨_,rfl⟩
  obtain⟨S1,hS1⟩:∃ x,at' s k=x:=⟨_,rfl⟩
  obtain⟨S2,hS2⟩:∃ x,at' s m=x:=⟨_,rfl⟩
  rw[hB1,hB2,hN1,hN2,hS1,hS2] at hfb
  rw[hS1,hS2] at hfl
  have T1:=fun R' w' (h:Ev R w R' w')=>HTr.out R' w' h (k:Int)
  have T2:=fun R' w' (h:Ev R w R' w')=>HTr.out R' w' h (m:Int)
  have F1:=fun R' w' (h:Ev R w R' w')=>HFc.out R' w' h (k:Int)
  have F2:=fun R' w' (h:Ev R w R' w')=>HFc.out R' w' h (m:Int)
  have G1:=fun R' w' (h:Ev R w R' w')=>HSg.out R' w' h k hk
  have G2:=fun R' w' (h:Ev R w R' w')=>HSg.out R' w' h m hmk
  rw[hB1] at T1
  rw[hB2] at T2
  rw[hN1] at F1
  rw[hN2] at F2
  rw[hS1] at G1
  rw[hS2] at G2
  have HT1:=Lib.hid T1
  have HT2:=Lib.hid T2
  have HF1:=Lib.hid F1
  have HF2:=Lib.hid F2
  have HG1:=Lib.hid G1
  have HG2:=Lib.hid G2
  have HFb:=Lib.hid hfb
  have z1:=HPh.out k hk
  have z2:=HPh.out _ z1
  have z3:=HIv.out _ z2
  have y1:=HPh.out m hmk
  have y2:=HPh.out _ y1
  have y3:=HIv.out _ y2
  have x1:=HIv.out k hk
  have x2:=HIv.out m hmk
  have u1:=fun R' w' (h:Ev R w R' w')=>HPi.out R' w' h k hk
  have u2:=fun R' w' (h:Ev R w R' w')=>HPi.out R' w' h _ z1
  have u3:=fun R' w' (h:Ev R w R' w')=>HBk.out R' w' h _ z2
  have v1:=fun R' w' (h:Ev R w R' w')=>HPi.out R' w' h m hmk
  have v2:=fun R' w' (h:Ev R w R' w')=>HPi.out R' w' h _ y1
  have v3:=fun R' w' (h:Ev R w R' w')=>HBk.out R' w' h _ y2
  have r1:=fun R' w' (h:Ev R w R' w')=>HBk.out R' w' h k hk
  have r2:=fun R' w' (h:Ev R w R' w')=>HBk.out R' w' h m hmk
  obtain⟨p1,e1⟩:∃ x,at' (phiL s) k=x:=⟨_,rfl⟩
  rw[e1] at z1 z2 z3 u1 u2 u3 hfl
  obtain⟨p2,e2⟩:∃ x,at' (phiL s) p1=x:=⟨_,rfl⟩
  rw[e2] at z2 z3 u2 u3 hfl
  obtain⟨A,e3⟩:∃ x,at' (invL s) p2=x:=⟨_,rfl⟩
  rw[e3] at z3 u3 hfl
  obtain⟨q1,e4⟩:∃ x,at' (phiL s) m=x:=⟨_,rfl⟩
  rw[e4] at y1 y2 y3 v1 v2 v3 hfl
  obtain⟨q2,e5⟩:∃ x,at' (phiL s) q1=x:=⟨_,rfl⟩
  rw[e5] at y2 y3 v2 v3 hfl
  obtain⟨C,e6⟩:∃ x,at' (invL s) q2=x:=⟨_,rfl⟩
  rw[e6] at y3 v3 hfl
  obtain⟨I1,e7⟩:∃ x,at' (invL s) k=x:=⟨_,rfl⟩
  rw[e7] at x1 r1 hfl
  obtain⟨I2,e8⟩:∃ x,at' (invL s) m=x:=⟨_,rfl⟩
  rw[e8] at x2 r2 hfl
  rw[hne] at hn hk hmk z3 y3 x1 x2
  have HFl:=Lib.hid hfl
  have U1:=Lib.hid u1
  have U2:=Lib.hid u2
  have U3:=Lib.hid u3
  have V1:=Lib.hid v1
  have V2:=Lib.hid v2
  have V3:=Lib.hid v3
  have RR1:=Lib.hid r1
  have RR2:=Lib.hid r2
  clear hd h1 HOf hm hfb hfl hme hne hB1 hB2 hN1 hN2 hS1 hS2 T1 T2 F1 F2 G1 G2 u1 u2 u3 v1 v2 v3 r1 r2 e1 e2 e3 e4 e5 e6 e7 e8 z1 z2 y1 y2 HTr HFc HSg HPi HBk
  have hmt:=HMt.out _ _ HD1.out.ev (k:Int)
  rw[HM.out] at hmt
  have HMt2:=Lib.hid hmt
  clear hmt HMt
  go_wp2_with fail
  refine HMt2.out.mono ?_
  rintro e w' ⟨rfl,rfl⟩
  clear HMt2
  go_wp2_with fail
  refine (HT1.out _ _ HD1.out.ev).mono ?_
  rintro e w2 ⟨rfl,R2,he⟩
  have HD2:=Lib.hid (HD1.out.step he)
  clear he HD1
  cases B1 with
  | false=>
   go_wp2_with fail
   go_ret2
   exact Or.inr (Or.inl ⟨H1.out,by rw[HFb.out];simp,rfl,R2,HD2.out.ev⟩)
  | true=>
   go_wp2_with fail
   refine (HT2.out _ _ HD2.out.ev).mono ?_
   rintro e w3 ⟨rfl,R3,he⟩
   have HD3:=Lib.hid (HD2.out.step he)
   clear he HD2
   cases B2 with
   | false=>
    go_wp2_with fail
    go_ret2
    exact Or.inr (Or.inl ⟨H1.out,by rw[HFb.out];simp,rfl,R3,HD3.out.ev⟩)
   | true=>
    go_wp2_with fail
    refine (HF1.out _ _ HD3.out.ev).mono ?_
    rintro e w4 ⟨rfl,R4,he⟩
    have HD4:=Lib.hid (HD3.out.step he)
    clear he HD3
    go_wp2_with fail
    refine (HF2.out _ _ HD4.out.ev).mono ?_
    rintro e w5 ⟨rfl,R5,he⟩
    have HD5:=Lib.hid (HD4.out.step he)
    clear he HD4
    by_cases hN:N1=N2
    ·have hb1:(N1 == N2)=true:=by simp[hN]
     go_wp2_with fail
     go_ret2
     exact Or.inr (Or.inl ⟨H1.out,by rw[HFb.out];simp[hN],rfl,R5,HD5.out.ev⟩)
    ·have hb1:(N1 == N2)=false:=by simp[hN]
     go_wp2_with fail
     refine (HG1.out _ _ HD5.out.ev).mono ?_
     rintro e w' ⟨rfl,rfl⟩
     by_cases hK1:S1=k
     ·have hb2:((S1:Int) == (k:Int))=true:=by simp[hK1]
      go_wp2_with fail
      go_ret2
      exact Or.inr (Or.inl ⟨H1.out,by rw[HFb.out];simp[hK1],rfl,R5,HD5.out.ev⟩)
     ·have hb2:((S1:Int) == (k:Int))=false:=by simp;omega
      go_wp2_with fail
      refine (HG2.out _ _ HD5.out.ev).mono ?_
      rintro e w' ⟨rfl,rfl⟩
      by_cases hK2:S2=m
      ·have hb3:((S2:Int) == (m:Int))=true:=by simp[hK2]
       go_wp2_with fail
       go_ret2
       exact Or.inr (Or.inl ⟨H1.out,by rw[HFb.out];simp[hK2],rfl,R5,HD5.out.ev⟩)
      ·have hb3:((S2:Int) == (m:Int))=false:=by simp;omega
       have HFb2:Hid (flipB s (k:Int).toNat=true):=Lib.hid (by rw[HFb.out];simp[hN,hK1,hK2])
       clear HFb
       go_wp2_with fail
       refine (U1.out _ _ HD5.out.ev).mono ?_
       rintro e w' ⟨rfl,rfl⟩
       go_wp2_with fail
       refine (U2.out _ _ HD5.out.ev).mono ?_
       rintro e w' ⟨rfl,rfl⟩
       go_wp2_with fail
       refine (U3.out _ _ HD5.out.ev).mono ?_
       rintro e w6 ⟨rfl,R6,he⟩
       have HD6:=Lib.hid (HD5.out.step he)
       clear he HD5 hb1 hb2 hb3
       go_wp2_with fail
       refine (V1.out _ _ HD6.out.ev).mono ?_
       rintro e w' ⟨rfl,rfl⟩
       go_wp2_with fail
       refine (V2.out _ _ HD6.out.ev).mono ?_
       rintro e w' ⟨rfl,rfl⟩
       go_wp2_with fail
       refine (V3.out _ _ HD6.out.ev).mono ?_
       rintro e w7 ⟨rfl,R7,he⟩
       have HD7:=Lib.hid (HD6.out.step he)
       have HD8:=Lib.hid (HD7.out.step ((Ev.refl HD7.out.ev.inv).alloc (.cells #[.int .i64 (k:Int),.int .i64 (A:Int),.int .i64 (m:Int),.int .i64 (C:Int)] 94)))
       clear he HD6 U1 U2 U3 V1 V2 V3
       have ix0:∀ w,(Instr.index 94 (.agg #[.int .i64 (k:Int),.int .i64 (A:Int),.int .i64 (m:Int),.int .i64 (C:Int)]) (.int .i64 0)).run Tryz.prog w=.ok (.agg #[.int .i64 (k:Int),.int .i64 (A:Int)]) w:=fun _=>by kernel_rfl
       have ix1:∀ w,(Instr.index 94 (.agg #[.int .i64 (k:Int),.int .i64 (A:Int),.int .i64 (m:Int),.int .i64 (C:Int)]) (.int .i64 1)).run Tryz.prog w=.ok (.agg #[.int .i64 (m:Int),.int .i64 (C:Int)]) w:=fun _=>by kernel_rfl
       have hArN:R7 w7.heap.size=none:=HD7.out.ev.inv.none_of_ge (Nat.le_refl _)
       have hPut:Ev R7 w7 (R7.put w7.heap.size (.inl (.cells #[.int .i64 (k:Int),.int .i64 (A:Int),.int .i64 (m:Int),.int .i64 (C:Int)] 94 (0,0)))) (w7.alloc (.cells #[.int .i64 (k:Int),.int .i64 (A:Int),.int .i64 (m:Int),.int .i64 (C:Int)] 94)):=((Ev.refl HD7.out.ev.inv).alloc (.cells #[.int .i64 (k:Int),.int .i64 (A:Int),.int .i64 (m:Int),.int .i64 (C:Int)] 94)).put _ (Nat.le_refl _) hArN (heap_alloc_new _ _)
       have HD9:=Lib.hid (HD7.out.step hPut)
       have hAr0:(R7.put w7.heap.size (.inl (.cells #[.int .i64 (k:Int),.int .i64 (A:Int),.int .i64 (m:Int),.int .i64 (C:Int)] 94 (0,0)))) w7.heap.size=some (.inl (.cells #[.int .i64 (k:Int),.int .i64 (A:Int),.int .i64 (m:Int),.int .i64 (C:Int)] 94 (0,0))):=Reg.put_same _ _ _
       obtain⟨R8,hR8⟩:∃ x,R7.put w7.heap.size (.inl (.cells #[.int .i64 (k:Int),.int .i64 (A:Int),.int .i64 (m:Int),.int .i64 (C:Int)] 94 (0,0)))=x:=⟨_,rfl⟩
       obtain⟨w8,hw8⟩:∃ x,w7.alloc (.cells #[.int .i64 (k:Int),.int .i64 (A:Int),.int .i64 (m:Int),.int .i64 (C:Int)] 94)=x:=⟨_,rfl⟩
       obtain⟨ar,har⟩:∃ x,w7.heap.size=x:=⟨_,rfl⟩
       rw[hR8,har] at hAr0
       rw[hR8,hw8] at HD9
       have HAr:=Lib.hid hAr0
       have a0:w8.cell? ⟨ar,0,none⟩=some (.int .i64 (k:Int)):=by rw[←hw8,←har];simp
       go_upto_region 8 with fail
       try rw[hw8]
       try rw[har]
       have hblk:w8.heap[ar]?=some (.cells #[.int .i64 (k:Int),.int .i64 (A:Int),.int .i64 (m:Int),.int .i64 (C:Int)] 94):=HD9.out.ev.inv _ _ hAr0
       have a0:=cells_at hblk 0
       have a1:=cells_at hblk 1
       have a2:=cells_at hblk 2
       have a3:=cells_at hblk 3
       simp at a0 a1 a2 a3
       have hN0:0<n:=by omega
       clear hAr0 hPut hArN hblk HD7 HD8 hR8 hw8 har
       go_wp2_with fail
       go_loopg [80] 2 (fun g v80 wr=>∃ (i:Nat) (R':Reg) (X:List Nat),i≤2∧2-i≤g∧DraftAt R w R' wr b p X∧R' ar=some (.inl (.cells #[.int .i64 (k:Int),.int .i64 (A:Int),.int .i64 (m:Int),.int .i64 (C:Int)] 94 (0,0)))∧X.length=n∧((i=0∧v80=.int .i64 0∧X=s)∨(i=1∧v80=.int .i64 1∧X=s.set I1 S1)∨(i=2∧v80=.int .i64 2∧X=(s.set I1 S1).set I2 S2)))
       case atStart=>exact⟨0,R8,s,by omega,by omega,HD9.out,HAr.out,HNe.out,by simp⟩
       case round=>
        clear a0 a1 a2 a3 HD9 HAr
        obtain⟨i,R',X,hi,hg,hdr,har,hxn,hst⟩:=hrel
        rcases hst with ⟨rfl,rfl,hX⟩|⟨rfl,rfl,hX⟩|⟨rfl,rfl,hX⟩
        ·have HX:=Lib.hid hX
         have hW:=hdr.step ((Ev.refl hdr.ev.inv).alloc (.cells #[.int .i64 (k:Int),.int .i64 (A:Int)] 93))
         have hnb:R' wr.heap.size=none:=hdr.ev.inv.none_of_ge (Nat.le_refl _)
         obtain⟨g,cap,hal0⟩:=hdr.along hxn hN0
         have hgl:g<wr.heap.size:=lt_of_cell ((hal0 _ _ (Ev.refl hdr.ev.inv)).2.2.1 I1 x1).1
         have hal:=fun R2 w2 (he:Ev R' (wr.alloc (.cells #[.int .i64 (k:Int),.int .i64 (A:Int)] 93)) R2 w2)=>hal0 R2 w2 (((Ev.refl hdr.ev.inv).alloc (.cells #[.int .i64 (k:Int),.int .i64 (A:Int)] 93)).trans he)
         have hC:=fun R2 w2 (he:Ev R' (wr.alloc (.cells #[.int .i64 (k:Int),.int .i64 (A:Int)] 93)) R2 w2)=>(show w2.cell? ⟨wr.heap.size,0,none⟩=some (.int .i64 (k:Int))∧(w2.setCell ⟨g,I1,none⟩ (.int .i64 (S1:Int))).cell? ⟨b,1,none⟩=some (.slice (some ⟨g,0,none⟩) n cap)∧(w2.setCell ⟨g,I1,none⟩ (.int .i64 (S1:Int))).cell? ⟨wr.heap.size,0,none⟩=some (.int .i64 (k:Int)) from by
          have h:=(he.block wr.heap.size (by simp) hnb).trans (heap_alloc_new _ _)
          have h2:(w2.setCell ⟨g,I1,none⟩ (.int .i64 (S1:Int))).heap[wr.heap.size]?=_:=(Below.heap_setCell _ _ _ _ (by show wr.heap.size≠g;omega)).trans h
          exact⟨cells_at h 0,((hal _ _ he).2.2.2 I1 S1 x1).2,cells_at h2 0⟩)
         have hx2:=Lib.hid hxn
         go_upto_region 11 with fail
         obtain⟨wy,hwy⟩:∃ x,wr.alloc (.cells #[.int .i64 (k:Int),.int .i64 (A:Int)] 93)=x:=⟨_,rfl⟩
         obtain⟨yb,hyb⟩:∃ x,wr.heap.size=x:=⟨_,rfl⟩
         rw[hwy] at hC hW hal ⊢
         rw[hyb] at hC ⊢
         have HC:=Lib.hid hC
         have HAl:=Lib.hid hal
         have HW:=Lib.hid hW
         have HEd:=Lib.hid ((Ev.refl hW.ev.inv).drew)
         have HAr:=Lib.hid har
         have hir:(I1:Int)<(n:Int):=by omega
         clear hC hal hal0 hW hnb hdr hX har hwy hyb hxn hgl
         obtain⟨c0,c1,hcc,_⟩:=HAl.out _ _ HEd.out
         obtain⟨k1,f1⟩:=hcc I1 x1
         obtain⟨yc0,yd1,yd0⟩:=HC.out _ _ HEd.out
         clear hcc
         go_region_held3 (fun w'=>w'.cell? ⟨b,1,none⟩=some (.slice (some ⟨g,0,none⟩) n cap)∧w'.cell? ⟨yb,0,none⟩=some (.int .i64 (k:Int))) (first|exact⟨c1,yc0⟩|exact⟨yd1,yd0⟩) (first|(go_at_call 59;refine (RR1.out _ _ (HW.out.ev.trans HEd.out)).mono ?_;rintro z wa ⟨rfl,Ra,hea⟩;have HEd:=Lib.hid (HEd.out.trans hea);clear hea;obtain⟨c0,c1,hcc,_⟩:=HAl.out _ _ HEd.out;obtain⟨k1,f1⟩:=hcc I1 x1;obtain⟨yc0,yd1,yd0⟩:=HC.out _ _ HEd.out;clear hcc)|(go_at_call 58;refine (HG1.out _ _ (HW.out.ev.trans HEd.out)).mono ?_;rintro z w' ⟨rfl,rfl⟩))
         all_goals (go_wp2_with fail)
         all_goals go_roundg (2-(0+1))
         all_goals first|(have hgo:=hg;omega)|exact⟨0+1,_,_,by omega,by omega,((HAl.out _ _ HEd.out).2.2.2 I1 S1 x1).1,HEd.out.reg _ _ HAr.out,by rw[List.length_set];exact hx2.out,by rw[HX.out];simp⟩
        ·have HX:=Lib.hid hX
         have hW:=hdr.step ((Ev.refl hdr.ev.inv).alloc (.cells #[.int .i64 (m:Int),.int .i64 (C:Int)] 93))
         have hnb:R' wr.heap.size=none:=hdr.ev.inv.none_of_ge (Nat.le_refl _)
         obtain⟨g,cap,hal0⟩:=hdr.along hxn hN0
         have hgl:g<wr.heap.size:=lt_of_cell ((hal0 _ _ (Ev.refl hdr.ev.inv)).2.2.1 I2 x2).1
         have hal:=fun R2 w2 (he:Ev R' (wr.alloc (.cells #[.int .i64 (m:Int),.int .i64 (C:Int)] 93)) R2 w2)=>hal0 R2 w2 (((Ev.refl hdr.ev.inv).alloc (.cells #[.int .i64 (m:Int),.int .i64 (C:Int)] 93)).trans he)
         have hC:=fun R2 w2 (he:Ev R' (wr.alloc (.cells #[.int .i64 (m:Int),.int .i64 (C:Int)] 93)) R2 w2)=>(show w2.cell? ⟨wr.heap.size,0,none⟩=some (.int .i64 (m:Int))∧(w2.setCell ⟨g,I2,none⟩ (.int .i64 (S2:Int))).cell? ⟨b,1,none⟩=some (.slice (some ⟨g,0,none⟩) n cap)∧(w2.setCell ⟨g,I2,none⟩ (.int .i64 (S2:Int))).cell? ⟨wr.heap.size,0,none⟩=some (.int .i64 (m:Int)) from by
          have h:=(he.block wr.heap.size (by simp) hnb).trans (heap_alloc_new _ _)
          have h2:(w2.setCell ⟨g,I2,none⟩ (.int .i64 (S2:Int))).heap[wr.heap.size]?=_:=(Below.heap_setCell _ _ _ _ (by show wr.heap.size≠g;omega)).trans h
          exact⟨cells_at h 0,((hal _ _ he).2.2.2 I2 S2 x2).2,cells_at h2 0⟩)
         have hx2:=Lib.hid hxn
         go_upto_region 11 with fail
         obtain⟨wy,hwy⟩:∃ x,wr.alloc (.cells #[.int .i64 (m:Int),.int .i64 (C:Int)] 93)=x:=⟨_,rfl⟩
         obtain⟨yb,hyb⟩:∃ x,wr.heap.size=x:=⟨_,rfl⟩
         rw[hwy] at hC hW hal ⊢
         rw[hyb] at hC ⊢
         have HC:=Lib.hid hC
         have HAl:=Lib.hid hal
         have HW:=Lib.hid hW
         have HEd:=Lib.hid ((Ev.refl hW.ev.inv).drew)
         have HAr:=Lib.hid har
         have hir:(I2:Int)<(n:Int):=by omega
         clear hC hal hal0 hW hnb hdr hX har hwy hyb hxn hgl
         obtain⟨c0,c1,hcc,_⟩:=HAl.out _ _ HEd.out
         obtain⟨k1,f1⟩:=hcc I2 x2
         obtain⟨yc0,yd1,yd0⟩:=HC.out _ _ HEd.out
         clear hcc
         go_region_held3 (fun w'=>w'.cell? ⟨b,1,none⟩=some (.slice (some ⟨g,0,none⟩) n cap)∧w'.cell? ⟨yb,0,none⟩=some (.int .i64 (m:Int))) (first|exact⟨c1,yc0⟩|exact⟨yd1,yd0⟩) (first|(go_at_call 59;refine (RR2.out _ _ (HW.out.ev.trans HEd.out)).mono ?_;rintro z wa ⟨rfl,Ra,hea⟩;have HEd:=Lib.hid (HEd.out.trans hea);clear hea;obtain⟨c0,c1,hcc,_⟩:=HAl.out _ _ HEd.out;obtain⟨k1,f1⟩:=hcc I2 x2;obtain⟨yc0,yd1,yd0⟩:=HC.out _ _ HEd.out;clear hcc)|(go_at_call 58;refine (HG2.out _ _ (HW.out.ev.trans HEd.out)).mono ?_;rintro z w' ⟨rfl,rfl⟩))
         all_goals (go_wp2_with fail)
         all_goals go_roundg (2-(1+1))
         all_goals first|(have hgo:=hg;omega)|exact⟨1+1,_,_,by omega,by omega,((HAl.out _ _ HEd.out).2.2.2 I2 S2 x2).1,HEd.out.reg _ _ HAr.out,by rw[List.length_set];exact hx2.out,by rw[HX.out];simp⟩
        ·have HX:=Lib.hid hX
         have HDr:=Lib.hid hdr
         have HAr:=Lib.hid har
         have HXn:=Lib.hid hxn
         have hblk:wr.heap[ar]?=some (.cells #[.int .i64 (k:Int),.int .i64 (A:Int),.int .i64 (m:Int),.int .i64 (C:Int)] 94):=hdr.ev.inv _ _ har
         have a0:=cells_at hblk 0
         have a1:=cells_at hblk 1
         have a2:=cells_at hblk 2
         have a3:=cells_at hblk 3
         simp at a0 a1 a2 a3
         obtain⟨wz,hwz⟩:∃ wz,wz=wr:=⟨_,rfl⟩
         subst hwz
         obtain⟨Rz,hRz⟩:∃ x,x=R':=⟨_,rfl⟩
         subst hRz
         clear hX hdr har hxn hblk
         go_wp2_with fail
         go_loopg [98] 2 (fun g v98 wr=>∃ (i:Nat) (R':Reg) (Y:List Nat),i≤2∧2-i≤g∧DraftAt R w R' wr b p Y∧Y.length=n∧((i=0∧v98=.int .i64 0∧Y=X)∨(i=1∧v98=.int .i64 1∧Y=behindL (X.set k k) k A)∨(i=2∧v98=.int .i64 2∧Y=behindL ((behindL (X.set k k) k A).set m m) m C)))
         case atStart=>exact⟨0,Rz,X,by omega,by omega,HDr.out,HXn.out,by simp⟩
         case round=>
          clear a0 a1 a2 a3 HDr
          obtain⟨i,R',Y,hi,hg,hdr,hyn,hst⟩:=hrel
          rcases hst with ⟨rfl,rfl,hY⟩|⟨rfl,rfl,hY⟩|⟨rfl,rfl,hY⟩
          ·have HY:=Lib.hid hY
           have hW:=hdr.step ((Ev.refl hdr.ev.inv).alloc (.cells #[.int .i64 (k:Int),.int .i64 (A:Int)] 93))
           obtain⟨g,cap,hal⟩:=hdr.along hyn hN0
           have hgl:g<wr.heap.size:=lt_of_cell ((hal _ _ (Ev.refl hdr.ev.inv)).2.2.1 k hk).1
           have hb:(wr.alloc (.cells #[.int .i64 (k:Int),.int .i64 (A:Int)] 93)).heap[wr.heap.size]?=some (.cells #[.int .i64 (k:Int),.int .i64 (A:Int)] 93 (0,0)):=heap_alloc_new _ _
           obtain⟨c0,c1,hcc,hput⟩:=hal _ _ ((Ev.refl hdr.ev.inv).alloc (.cells #[.int .i64 (k:Int),.int .i64 (A:Int)] 93))
           obtain⟨k1,f1⟩:=hcc k hk
           have hd9:=(hput k k hk).1
           go_upto_region 16 with fail
           obtain⟨wy,hwy⟩:∃ x,wr.alloc (.cells #[.int .i64 (k:Int),.int .i64 (A:Int)] 93)=x:=⟨_,rfl⟩
           obtain⟨yb,hyb⟩:∃ x,wr.heap.size=x:=⟨_,rfl⟩
           rw[hwy] at hW hb c0 c1 k1 f1 hd9 ⊢
           rw[hyb] at hb hgl ⊢
           have yc0:=cells_at hb 0
           have yc1:=cells_at hb 1
           have hb9:(wy.setCell ⟨g,k,none⟩ (.int .i64 (k:Int))).drew.heap[yb]?=some (.cells #[.int .i64 (k:Int),.int .i64 (A:Int)] 93 (0,0)):=(Below.heap_setCell _ _ _ _ (by show yb≠g;omega)).trans hb
           simp at yc0 yc1
           have HD9:=Lib.hid hd9.drew
           have HB9:=Lib.hid hb9
           have hyr:(k:Int)<(n:Int):=by omega
           have hx2:=Lib.hid hyn
           have hyl:=Lib.hid (show (Y.set k k).length=n by rw[List.length_set];exact hyn)
           clear hal hput hcc hW hb hdr hY hyn hgl hwy hyb hd9 hb9
           go_region
           go_upto_region 17 with fail
           obtain⟨w9,hw9⟩:∃ x,(wy.setCell ⟨g,k,none⟩ (.int .i64 (k:Int))).drew=x:=⟨_,rfl⟩
           rw[hw9] at HD9 HB9 ⊢
           have yd0:=cells_at HB9.out 0
           have yd1:=cells_at HB9.out 1
           simp at yd0 yd1
           have HBh:=Lib.hid (gbehind_any HD9.out (d:=k) (t:=A) (by have:=hyl.out;omega) (by rw[hyl.out];exact hk) (by rw[hyl.out];exact z3))
           clear hw9 c0 c1 k1 f1 yc0 yc1 HB9
           go_wp2_with fail
           refine HBh.out.mono ?_
           rintro e wb ⟨rfl,hdb⟩
           have HDb:=Lib.hid hdb
           clear hdb HBh yd0 yd1
           go_wp2_with fail
           go_roundg (2-(0+1))
           case measure=>omega
           case rel=>exact⟨0+1,_,_,by omega,by omega,HDb.out,by rw[behindL_length];exact hyl.out,by rw[HY.out];simp⟩
          ·have HY:=Lib.hid hY
           have hW:=hdr.step ((Ev.refl hdr.ev.inv).alloc (.cells #[.int .i64 (m:Int),.int .i64 (C:Int)] 93))
           obtain⟨g,cap,hal⟩:=hdr.along hyn hN0
           have hgl:g<wr.heap.size:=lt_of_cell ((hal _ _ (Ev.refl hdr.ev.inv)).2.2.1 m hmk).1
           have hb:(wr.alloc (.cells #[.int .i64 (m:Int),.int .i64 (C:Int)] 93)).heap[wr.heap.size]?=some (.cells #[.int .i64 (m:Int),.int .i64 (C:Int)] 93 (0,0)):=heap_alloc_new _ _
           obtain⟨c0,c1,hcc,hput⟩:=hal _ _ ((Ev.refl hdr.ev.inv).alloc (.cells #[.int .i64 (m:Int),.int .i64 (C:Int)] 93))
           obtain⟨k1,f1⟩:=hcc m hmk
           have hd9:=(hput m m hmk).1
           go_upto_region 16 with fail
           obtain⟨wy,hwy⟩:∃ x,wr.alloc (.cells #[.int .i64 (m:Int),.int .i64 (C:Int)] 93)=x:=⟨_,rfl⟩
           obtain⟨yb,hyb⟩:∃ x,wr.heap.size=x:=⟨_,rfl⟩
           rw[hwy] at hW hb c0 c1 k1 f1 hd9 ⊢
           rw[hyb] at hb hgl ⊢
           have yc0:=cells_at hb 0
           have yc1:=cells_at hb 1
           have hb9:(wy.setCell ⟨g,m,none⟩ (.int .i64 (m:Int))).drew.heap[yb]?=some (.cells #[.int .i64 (m:Int),.int .i64 (C:Int)] 93 (0,0)):=(Below.heap_setCell _ _ _ _ (by show yb≠g;omega)).trans hb
           simp at yc0 yc1
           have HD9:=Lib.hid hd9.drew
           have HB9:=Lib.hid hb9
           have hyr:(m:Int)<(n:Int):=by omega
           have hx2:=Lib.hid hyn
           have hyl:=Lib.hid (show (Y.set m m).length=n by rw[List.length_set];exact hyn)
           clear hal hput hcc hW hb hdr hY hyn hgl hwy hyb hd9 hb9
           go_region
           go_upto_region 17 with fail
           obtain⟨w9,hw9⟩:∃ x,(wy.setCell ⟨g,m,none⟩ (.int .i64 (m:Int))).drew=x:=⟨_,rfl⟩
           rw[hw9] at HD9 HB9 ⊢
           have yd0:=cells_at HB9.out 0
           have yd1:=cells_at HB9.out 1
           simp at yd0 yd1
           have HBh:=Lib.hid (gbehind_any HD9.out (d:=m) (t:=C) (by have:=hyl.out;omega) (by rw[hyl.out];exact hmk) (by rw[hyl.out];exact y3))
           clear hw9 c0 c1 k1 f1 yc0 yc1 HB9
           go_wp2_with fail
           refine HBh.out.mono ?_
           rintro e wb ⟨rfl,hdb⟩
           have HDb:=Lib.hid hdb
           clear hdb HBh yd0 yd1
           go_wp2_with fail
           go_roundg (2-(1+1))
           case measure=>omega
           case rel=>exact⟨1+1,_,_,by omega,by omega,HDb.out,by rw[behindL_length];exact hyl.out,by rw[HY.out];simp⟩
          ·have HY:=Lib.hid hY
           have HDn:=Lib.hid (gdone_any hdr root lone (hdr.ev.map HP.out) (by omega))
           clear hdr hY
           go_wp2_with fail
           refine HDn.out.mono ?_
           rintro e w9 hpo
           obtain⟨q,c,rfl⟩:=hpo.two
           have HPo:=Lib.hid hpo
           clear hpo HDn
           go_wp2_with fail
           go_ret2
           exact Or.inr (Or.inr ⟨H1.out,HFb2.out,by rw[HFl.out,←HX.out,←HY.out];exact HPo.out⟩)
end
section
set_option linter.unusedVariables false
theorem insF_congr {f g:Nat→Nat} {t d x:Nat} (h1:f t=g t) (h2:x≠t→x≠d→f x=g x):insF f t d x=insF g t d x:=by
 unfold insF
 by_cases e:x=t
 ·rw[if_pos e,if_pos e]
 ·rw[if_neg e,if_neg e]
  by_cases e2:x=d
  ·rw[if_pos e2,if_pos e2,h1]
  ·rw[if_neg e2,if_neg e2,h2 e e2]
theorem behind_at {L:List Nat} {d t x:Nat} (hx:x<L.length):at' (behindL L d t) x=insF (at' L) t d x:=by
 unfold behindL insF
 rw[at_set (by rw[List.length_set];exact hx),at_set hx]
 by_cases h:t=x
 ·rw[if_pos h,if_pos h.symm]
 ·rw[if_neg h,if_neg (show ¬ x=t from fun e=>h e.symm)]
  by_cases h2:d=x
  ·rw[if_pos h2,if_pos h2.symm]
  ·rw[if_neg h2,if_neg (show ¬ x=d from fun e=>h2 e.symm)]
theorem at_new2 {s:List Nat} {x:Nat} (h:x<s.length+2):at' (s ++ [s.length,s.length+1]) x=if x<s.length then at' s x else x:=by
 rw[at'_eq (by simp;omega)]
 by_cases h1:x<s.length
 ·rw[List.getElem_append_left h1,if_pos h1,at'_eq h1]
 ·rw[List.getElem_append_right (by omega),if_neg h1]
  obtain rfl|rfl:x=s.length∨x=s.length+1:=by omega
  ·simp
  ·simp
theorem leaf_at {s:List Nat} {d y:Nat} (hd:d<s.length) (hy:y<s.length+2):at' (leafL s d) y=if y=s.length+1 then s.length+1 else insF (at' s) d s.length y:=by
 unfold leafL
 rw[behind_at (by simp;omega)]
 unfold insF
 have hD:=at_new2 (s:=s) (x:=d) (by omega)
 rw[if_pos hd] at hD
 rw[hD,at_new2 hy]
 by_cases h1:y=s.length+1
 ·rw[if_pos h1,if_neg (by omega),if_neg (by omega),if_neg (by omega),h1]
 ·rw[if_neg h1]
  by_cases h2:y=d
  ·rw[if_pos h2,if_pos h2]
  ·rw[if_neg h2,if_neg h2]
   by_cases h3:y=s.length
   ·rw[if_pos h3,if_pos h3]
   ·rw[if_neg h3,if_neg h3,if_pos (by omega)]
theorem cy_one {f:Nat→Nat} {x:Nat} (h:f x=x):Cy f [x]:=Cy.ch.2 h
theorem leaf_rows {s:List Nat} (hs:IsPerm s) {d:Nat} (hd:d<s.length):RowsOf (outL (aftF d s.length) (listsL s s.length) ++ [[s.length+1]]) (leafL s d):=by
 have h1:=((lists_rowsF hs).after hd (Nat.lt_irrefl s.length)).congr (g:=at' (leafL s d)) (fun y=>Iff.rfl) fun y hy=>by rw[leaf_at hd (by omega),if_neg (by omega)]
 refine (h1.more (v:=[s.length+1]) (by simp) (fun x hx=>?_) (cy_one ?_) fun x _=>rfl).rows (fun y=>?_) fun y _=>rfl
 ·rw[List.mem_singleton] at hx;omega
 ·rw[leaf_at hd (by omega),if_pos rfl]
 ·rw[List.mem_singleton,leafL_length];omega
theorem chord_rows {s:List Nat} (hs:IsPerm s) {d e:Nat} (hd:d<s.length) (he:e<s.length):RowsOf (outL (aftF (if d=e then s.length else e) (s.length+1)) (outL (aftF d s.length) (listsL s s.length))) (chordL s d e):=by
 have h1:=(lists_rowsF hs).after hd (Nat.lt_irrefl s.length)
 obtain⟨t,ht⟩:∃ t,(if d=e then s.length else e)=t:=⟨_,rfl⟩
 have htl:t≤s.length:=by rw[←ht];split <;> omega
 unfold chordL
 rw[ht]
 have h2:=h1.after (t:=t) (d:=s.length+1) (by omega) (by omega)
 refine h2.rows (fun y=>by rw[behindL_length,leafL_length];omega) fun y hy=>?_
 rw[behindL_length,leafL_length] at hy
 rw[behind_at (by rw[leafL_length];exact hy)]
 have e1:∀ x,x≤s.length→at' (leafL s d) x=insF (at' s) d s.length x:=fun x hx=>by rw[leaf_at hd (by omega),if_neg (by omega)]
 unfold insF at e1 ⊢
 by_cases h3:y=t
 ·rw[if_pos h3,if_pos h3]
 ·rw[if_neg h3,if_neg h3]
  by_cases h4:y=s.length+1
  ·rw[if_pos h4,if_pos h4,e1 t htl]
  ·rw[if_neg h4,if_neg h4,e1 y (by omega)]
theorem splitL_length (s:List Nat) (d:Nat):(splitL s d).length=s.length+2:=by
 unfold splitL;dsimp only;split <;> simp
theorem cy_two {f:Nat→Nat} {x y:Nat} (h:f x=y) (h2:f y=x):Cy f [x,y]:=Cy.ch.2 ⟨h,h2⟩
theorem split_at {s:List Nat} (hs:IsPerm s) {d m y:Nat} (hm:d ^^^ 1=m) (hml:m<s.length) (hy:y<s.length+2):
  at' (splitL s d) y=if y=m then s.length else if y=s.length then m else if y=s.length+1 then (if at' s m=m then s.length+1 else at' s m) else if at' s y=m then s.length+1 else at' s y:=by
 unfold splitL
 dsimp only
 rw[hm]
 obtain⟨hk1,hk2⟩:=at_invL hs hml
 obtain⟨k,hk⟩:∃ k,at' (invL s) m=k:=⟨_,rfl⟩
 rw[hk] at hk1 hk2 ⊢
 have hkm:k=m↔at' s m=m:=⟨fun h=>by rw[h] at hk1;exact hk1,fun h=>hs.inj hk2 hml (by rw[hk1,h])⟩
 have hL:(s ++ [s.length,s.length+1]).length=s.length+2:=by simp
 have hM:=at_new2 (s:=s) (x:=m) (by omega)
 rw[if_pos hml] at hM
 have key:∀ L:List Nat,L.length=s.length+2→at' ((L.set s.length m).set m s.length) y=if y=m then s.length else if y=s.length then m else at' L y:=fun L hl=>by
  rw[at_set (by rw[List.length_set,hl];exact hy),at_set (by rw[hl];exact hy)]
  by_cases h:m=y
  ·rw[if_pos h,if_pos h.symm]
  ·rw[if_neg h,if_neg (show ¬ y=m from fun e=>h e.symm)]
   by_cases h2:s.length=y
   ·rw[if_pos h2,if_pos h2.symm]
   ·rw[if_neg h2,if_neg (show ¬ y=s.length from fun e=>h2 e.symm)]
 rw[key _ (by split <;> simp)]
 by_cases h1:y=m
 ·rw[if_pos h1,if_pos h1]
 rw[if_neg h1,if_neg h1]
 by_cases h2:y=s.length
 ·rw[if_pos h2,if_pos h2]
 rw[if_neg h2,if_neg h2]
 by_cases hkk:k=m
 ·rw[if_pos hkk,at_set (by rw[hL];exact hy),at_new2 hy]
  by_cases h3:y=s.length+1
  ·rw[if_pos h3.symm,if_pos h3,if_pos (hkm.1 hkk)]
  ·rw[if_neg (fun e=>h3 e.symm),if_neg h3,if_pos (by omega),if_neg]
   intro e
   exact h1 ((hs.inj (by omega) hk2 (e.trans hk1.symm)).trans hkk)
 ·rw[if_neg hkk,at_set (by rw[List.length_set,hL];exact hy),at_set (by rw[hL];exact hy),at_new2 hy,hM]
  by_cases h3:y=s.length+1
  ·rw[if_pos h3.symm,if_pos h3,if_neg (fun e=>hkk (hkm.2 e))]
  ·rw[if_neg (fun e=>h3 e.symm),if_neg h3]
   by_cases h4:k=y
   ·rw[if_pos h4,if_pos (show at' s y=m by rw[←h4];exact hk1)]
   ·rw[if_neg h4,if_pos (show y<s.length by omega),if_neg (show ¬ at' s y=m from fun e=>h4 (hs.inj (by omega) hk2 (e.trans hk1.symm)).symm)]
theorem split_rows {s:List Nat} (hs:IsPerm s) {d m:Nat} (hm:d ^^^ 1=m) (hml:m<s.length):RowsOf (outL (witF m) (outL (aftF m (s.length+1)) (listsL s s.length)) ++ [[s.length,m]]) (splitL s d):=by
 have h1:=((lists_rowsF hs).after (t:=m) (d:=s.length+1) hml (by omega)).without m
 have h2:=h1.congr (g:=at' (splitL s d)) (fun y=>Iff.rfl) fun y hy=>by
  have hne:y≠m:=hy.2
  have hy2:y<s.length∨y=s.length+1:=hy.1
  rw[split_at hs hm hml (by omega),if_neg hne,if_neg (by omega)]
  have hvm:insF (at' s) m (s.length+1) m=s.length+1:=by unfold insF;rw[if_pos rfl]
  unfold delF
  rw[hvm]
  unfold insF
  rw[if_neg hne]
  by_cases h3:y=s.length+1
  ·rw[if_pos h3,if_pos h3]
  ·rw[if_neg h3,if_neg h3]
 refine (h2.more (v:=[s.length,m]) ?_ (fun x hx=>?_) (cy_two ?_ ?_) fun x _=>rfl).rows (fun y=>?_) fun y _=>rfl
 ·simp;omega
 ·simp at hx;omega
 ·rw[split_at hs hm hml (by omega),if_neg (by omega),if_pos rfl]
 ·rw[split_at hs hm hml (by omega),if_pos rfl]
 ·rw[splitL_length]
  simp
  omega
def starLs (s O:List Nat):Nat→List (List Nat)
 | 0=>listsL s s.length
 | i+1=>outL (aftF (at' (invL s) (at' O i)) (s.length+2*i)) (starLs s O i)
def hubL (n:Nat):Nat→List Nat
 | 0=>[]
 | i+1=>(n+2*i+1) :: hubL n i
theorem hubL_length (n:Nat):∀ i,(hubL n i).length=i
 | 0=>rfl
 | i+1=>by unfold hubL;rw[List.length_cons,hubL_length n i]
theorem hubL_at (n:Nat):∀ {i j:Nat},j<i→at' (hubL n i) j=n+2*(i-1-j)+1
 | i+1,0,_=>by show n+2*i+1=_;simp
 | i+1,j+1,h=>by
  show at' (hubL n i) j=_
  rw[hubL_at n (by omega),show i+1-1-(j+1)=i-1-j by omega]
theorem hubL_mem (n:Nat):∀ {i x:Nat},x∈hubL n i↔∃ j,j<i∧x=n+2*j+1
 | 0,x=>⟨fun h=>(by cases h),fun ⟨j,h,_⟩=>(by omega)⟩
 | i+1,x=>by
  unfold hubL
  rw[List.mem_cons,hubL_mem n]
  constructor
  ·rintro (h|⟨j,h1,h2⟩)
   ·exact⟨i,by omega,h⟩
   ·exact⟨j,by omega,h2⟩
  ·rintro⟨j,h1,h2⟩
   by_cases h:j=i
   ·exact Or.inl (h ▸ h2)
   ·exact Or.inr ⟨j,by omega,h2⟩
theorem hubL_nodup (n:Nat):∀ i,(hubL n i).Nodup
 | 0=>List.nodup_nil
 | i+1=>by
  unfold hubL
  rw[List.nodup_cons,hubL_mem]
  exact⟨fun ⟨j,h1,h2⟩=>by omega,hubL_nodup n i⟩
theorem starLs_rows {s O:List Nat} (hs:IsPerm s) (hO:O.Nodup) (hlt:∀ x,x∈O→x<s.length):∀ i,i≤O.length→RowsF (starLs s O i) (fun y=>y<s.length∨∃ j,j<i∧y=s.length+2*j) (stF s O i)
 | 0,_=>(lists_rowsF hs).congr (fun y=>⟨Or.inl,fun h=>h.elim id fun ⟨j,h,_⟩=>by omega⟩) fun y hy=>by
  rw[stF_old hy,if_neg (by simp)]
 | i+1,hi=>by
  have ih:=starLs_rows hs hO hlt i (by omega)
  have hil:i<O.length:=by omega
  have hx:=hlt (at' O i) (by rw[at'_eq hil];exact List.getElem_mem hil)
  obtain⟨hb1,hb2⟩:=at_invL hs hx
  obtain⟨t,ht⟩:∃ t,at' (invL s) (at' O i)=t:=⟨_,rfl⟩
  rw[ht] at hb1 hb2
  have h1:=ih.after (t:=t) (d:=s.length+2*i) (Or.inl hb2) (fun h=>by rcases h with h|⟨j,h1,h2⟩ <;> omega)
  have e:starLs s O (i+1)=outL (aftF t (s.length+2*i)) (starLs s O i):=by rw[←ht];rfl
  rw[e]
  refine h1.congr (fun y=>?_) fun y hy=>?_
  ·constructor
   ·rintro ((h|⟨j,h1,h2⟩)|h)
    ·exact Or.inl h
    ·exact Or.inr ⟨j,by omega,h2⟩
    ·exact Or.inr ⟨i,by omega,h⟩
   ·rintro (h|⟨j,h1,h2⟩)
    ·exact Or.inl (Or.inl h)
    ·by_cases h3:j=i
     ·exact Or.inr (h3 ▸ h2)
     ·exact Or.inl (Or.inr ⟨j,by omega,h2⟩)
  ·have htv:stF s O i t=at' O i:=by rw[stF_old hb2,hb1,if_neg (not_mem_take hO hil)]
   unfold insF
   rw[htv]
   by_cases h2:y=t
   ·rw[if_pos h2,h2,stF_old hb2,hb1,if_pos ((mem_take_succ hil).2 (Or.inr rfl)),idx_at hO hil]
   ·rw[if_neg h2]
    by_cases h3:y=s.length+2*i
    ·rw[if_pos h3,stF_even (by omega) (by omega),h3,show (s.length+2*i-s.length) / 2=i by omega]
    ·rw[if_neg h3]
     by_cases h4:y<s.length
     ·rw[stF_old h4,stF_old h4]
      by_cases h5:at' s y∈O.take i
      ·rw[if_pos h5,if_pos ((mem_take_succ hil).2 (Or.inl h5))]
      ·rw[if_neg h5,if_neg]
       intro h6
       rcases (mem_take_succ hil).1 h6 with h7|h7
       ·exact h5 h7
       ·exact h2 (hs.inj h4 hb2 (h7.trans hb1.symm))
     ·have h6:(y-s.length) % 2=0:=by
       rcases hy with (h|⟨j,h1,h2⟩)|h <;> omega
      rw[stF_even h4 h6,stF_even h4 h6]
theorem star_rows {s O:List Nat} (hs:IsPerm s) (hO:O.Nodup) (hlt:∀ x,x∈O→x<s.length) (hm:0<O.length):RowsOf (starLs s O O.length ++ [hubL s.length O.length]) (starC s O):=by
 have h1:=(starLs_rows hs hO hlt O.length (Nat.le_refl _)).congr (g:=at' (starC s O)) (fun y=>Iff.rfl) fun y hy=>by
  have hyl:y<s.length+2*O.length:=by rcases hy with h|⟨j,h1,h2⟩ <;> omega
  rw[starC_at hyl]
  unfold starF
  by_cases h4:y<s.length
  ·rw[stF_old h4,if_pos h4,List.take_length]
  ·have h6:(y-s.length) % 2=0:=by
    rcases hy with h|⟨j,h1,h2⟩ <;> omega
   rw[stF_even h4 h6,if_neg h4,if_pos h6]
 refine (h1.more (hubL_nodup _ _) (fun x hx=>?_) (fun j hj=>?_) fun x _=>rfl).rows (fun y=>?_) fun y _=>rfl
 ·obtain⟨j,h2,h3⟩:=(hubL_mem _).1 hx
  rintro (h|⟨k,h4,h5⟩) <;> omega
 ·rw[hubL_length] at hj ⊢
  rw[hubL_at _ hj,starC_at (by omega)]
  unfold starF
  rw[if_neg (by omega),if_neg (by omega),show (s.length+2*(O.length-1-j)+1-s.length) / 2=O.length-1-j by omega]
  unfold nextI
  by_cases h:j+1<O.length
  ·rw[if_pos h,hubL_at _ h,show O.length-1-j+O.length-1=(O.length-1-(j+1))+O.length by omega,Nat.add_mod_right,Nat.mod_eq_of_lt (by omega)]
  ·rw[if_neg h,hubL_at _ hm,show O.length-1-j=0 by omega,Nat.zero_add,Nat.mod_eq_of_lt (by omega)]
   rfl
 ·rw[starC_length,hubL_mem]
  constructor
  ·rintro ((h|⟨j,h1,h2⟩)|⟨j,h1,h2⟩) <;> omega
  ·intro h
   by_cases h1:y<s.length
   ·exact Or.inl (Or.inl h1)
   ·by_cases h2:(y-s.length) % 2=0
    ·exact Or.inl (Or.inr ⟨(y-s.length) / 2,by omega,by omega⟩)
    ·exact Or.inr ⟨(y-s.length) / 2,by omega,by omega⟩
theorem flipL_length (s:List Nat) (d:Nat):(flipL s d).length=s.length:=by
 unfold flipL;dsimp only
 rw[behindL_length,List.length_set,behindL_length];simp
theorem flip_rows {s:List Nat} (hs:IsPerm s) {d m a b:Nat} (hm:d ^^^ 1=m) (hd:d<s.length) (hml:m<s.length)
  (ha:at' (invL s) (at' (phiL s) (at' (phiL s) d))=a) (hb:at' (invL s) (at' (phiL s) (at' (phiL s) m))=b) (hal:a<s.length) (hbl:b<s.length)
  (h1:at' s d≠d) (h2:at' s m≠m) (h3:at' s d≠m) (h4:at' s m≠d) (ha1:a≠d) (ha2:a≠m) (hb1:b≠d) (hb2:b≠m):
  RowsOf (outL (aftF b m) (outL (aftF a d) (outL (witF m) (outL (witF d) (listsL s s.length))))) (flipL s d):=by
 have hdm:d≠m:=fun e=>by rw[←hm,xor_one] at e;split at e <;> omega
 have r1:=((((lists_rowsF hs).without d).without m).after (t:=a) (d:=d) ⟨⟨hal,ha1⟩,ha2⟩ (fun h=>h.1.2 rfl)).after (t:=b) (d:=m) (Or.inl ⟨⟨hbl,hb1⟩,hb2⟩) (fun h=>h.elim (fun h=>h.2 rfl) fun e=>hdm e.symm)
 refine r1.rows (fun y=>?_) fun y hy=>?_
 ·rw[flipL_length]
  constructor
  ·rintro ((h|h)|h)
   ·exact h.1.1
   ·omega
   ·omega
  ·intro h
   by_cases e1:y=m
   ·exact Or.inr e1
   ·by_cases e2:y=d
    ·exact Or.inl (Or.inr e2)
    ·exact Or.inl (Or.inl ⟨⟨h,e2⟩,e1⟩)
 rw[flipL_length] at hy
 obtain⟨hd1,hd2⟩:=at_invL hs hd
 obtain⟨hm1,hm2⟩:=at_invL hs hml
 unfold flipL
 dsimp only
 rw[hm,ha,hb]
 obtain⟨p,hp⟩:∃ p,at' (invL s) d=p:=⟨_,rfl⟩
 obtain⟨q,hq⟩:∃ q,at' (invL s) m=q:=⟨_,rfl⟩
 rw[hp] at hd1 hd2
 rw[hq] at hm1 hm2
 rw[hp,hq]
 obtain⟨L1,hL1⟩:∃ L,(s.set p (at' s d)).set q (at' s m)=L:=⟨_,rfl⟩
 have hl1:L1.length=s.length:=by rw[←hL1];simp
 rw[hL1]
 have hpq:p≠q:=fun e=>hdm (by rw[←hd1,e,hm1])
 have hpd:p≠d:=fun e=>h1 (by rw[←e,hd1,e])
 have hqm:q≠m:=fun e=>h2 (by rw[←e,hm1,e])
 have hpm:p≠m:=fun e=>h4 (by rw[←e,hd1])
 have hqd:q≠d:=fun e=>h3 (by rw[←e,hm1])
 have v1:∀ x,x<s.length→at' L1 x=delF (delF (at' s) d) m x:=fun x hx=>by
  rw[←hL1,at_set (by rw[List.length_set];exact hx),at_set hx]
  have gm:delF (at' s) d m=at' s m:=by unfold delF;rw[if_neg h4]
  unfold delF at gm ⊢
  rw[gm]
  by_cases e1:q=x
  ·have hv:at' s x=m:=by rw[←e1];exact hm1
   rw[if_pos e1,hv,if_neg (show ¬ m=d from fun e=>hdm e.symm),if_pos rfl]
  ·rw[if_neg e1]
   by_cases e2:p=x
   ·have hv:at' s x=d:=by rw[←e2];exact hd1
    rw[if_pos e2,hv,if_pos rfl,if_neg h3]
   ·rw[if_neg e2,if_neg (show ¬ at' s x=d from fun e=>e2 (hs.inj hd2 hx (hd1.trans e.symm))),if_neg (show ¬ at' s x=m from fun e=>e1 (hs.inj hm2 hx (hm1.trans e.symm)))]
 rw[behind_at (by rw[List.length_set,behindL_length,List.length_set,hl1];exact hy)]
 have v2:∀ x,x<s.length→x≠m→at' ((behindL (L1.set d d) d a).set m m) x=insF (delF (delF (at' s) d) m) a d x:=fun x hx hxm=>by
  rw[at_set (by rw[behindL_length,List.length_set,hl1];exact hx),if_neg (fun e=>hxm e.symm),behind_at (by rw[List.length_set,hl1];exact hx)]
  refine insF_congr ?_ fun _ e2=>?_
  ·rw[at_set (by rw[hl1];exact hal),if_neg (show ¬ d=a from fun e=>ha1 e.symm),v1 a hal]
  ·rw[at_set (by rw[hl1];exact hx),if_neg (show ¬ d=x from fun e=>e2 e.symm),v1 x hx]
 have ub:∀ (F:Nat→Nat) (t u x:Nat),insF F t u x=if x=t then u else if x=u then F t else F x:=fun _ _ _ _=>rfl
 rw[ub _ b m y,ub _ b m y,v2 b hbl hb2]
 by_cases e1:y=b
 ·rw[if_pos e1,if_pos e1]
 ·rw[if_neg e1,if_neg e1]
  by_cases e2:y=m
  ·rw[if_pos e2,if_pos e2]
  ·rw[if_neg e2,if_neg e2,v2 y hy e2]
end
section
open Go.RowKit
set_option linter.unusedVariables false
theorem nodup_len {v:List Nat} (hn:v.Nodup) {N:Nat} (h:∀ x,x∈v→x<N):v.length≤N:=by
 by_cases hl:v.length≤N
 ·exact hl
 ·obtain⟨a,b,hab,hb,e⟩:=pigeon N (fun k=>at' v k) (fun k hk=>h _ (by rw[at'_eq (by omega)];exact List.getElem_mem _))
  simp only[at'_eq (show a<v.length by omega),at'_eq (show b<v.length by omega)] at e
  have:=nodup_inj hn (by omega) (by omega) e
  omega
theorem RowsF.sm {xss:List (List Nat)} {D:Nat→Prop} {f:Nat→Nat} (h:RowsF xss D f) {N:Nat} (hD:∀ y,D y→y<N) (hN:N≤100000) (hl:xss.length≤100000):RowsSm xss:=by
 refine⟨hl,fun i hi=>?_⟩
 have hm:xss.getD i []∈xss:=by simp[List.getD,hi]
 have hlt:∀ x,x∈xss.getD i []→x<N:=fun x hx=>hD x ((h.mem x).1 (List.mem_flatten.2 ⟨_,hm,hx⟩))
 exact⟨Nat.le_trans (nodup_len (h.rowNd hm) hlt) hN,fun x hx=>by have:=hlt x hx;omega⟩
theorem RowsOf.below {xss:List (List Nat)} {T:List Nat} (h:RowsOf xss T):∀ i,i<xss.length→∀ x,x∈xss.getD i []→x<T.length:=fun i hi x hx=>
 (h.mem x).1 (List.mem_flatten.2 ⟨xss.getD i [],by simp[List.getD,hi],hx⟩)
theorem OwnI.lit1 {R:Reg} {W:World} {B:Nat} (hI:Inv R W) (hB:B≤W.heap.size) (y:Int):OwnI R B 3 (W.alloc (.cells #[.int .i64 y] 3)) (.slice (some ⟨W.heap.size,0,none⟩) 1 1) [y]:=by
 have h:=World.ownsRow_lit (base:=B) (e:=3) (size:=1) W #[.int .i64 y] 1 hB (by simp[maxLen]) rfl
 refine⟨by simpa using h,fun k hk=>?_⟩
 simp only[Value.ownBlock,Option.some.injEq] at hk
 rw[←hk]
 exact hI.none_of_ge (Nat.le_refl _)
section
variable {a : Act} {ops : Array Oper} {Q : Exit → Act → World → Prop} {o : Oper} {rest : List Oper}
end
end
end Go.Proofs.YtklkgicjfnbndaaGreat
