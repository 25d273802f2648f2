/- shell.Right: whether a list is a shelling order. -/
import Derived.Test.YtgphnkkdmlohlaaZShellRights37
import Derived.Test.YtgphnkkdmlohlaaZShellRights32
import Derived.Test.YtgphnkkdmlohlaaZShellRights34
import Derived.Test.YtgphnkkdmlohlaaZShellRights05
import Derived.Test.YtgphnkkdmlohlaaZShellRights35
namespace Go.Proofs.Ytgphnkkdmlohlaa
section
open Go.RowKit
set_option linter.unusedVariables false
set_option linter.unusedSimpArgs false
def plR (xs:List Int) (V:Nat):Nat→List Int
 | 0=>List.replicate V (-1)
 | i+1=>(plR xs V i).set (nth xs i).toNat (i:Int)
theorem plR_length (xs:List Int) (V:Nat):∀ i,(plR xs V i).length=V
 | 0=>by simp[plR]
 | i+1=>by show ((plR xs V i).set _ _).length=V;rw[List.length_set,plR_length xs V i]
def NewR (xs:List Int) (V i:Nat):Prop:=0≤nth xs i∧nth xs i<(V:Int)∧nth (plR xs V i) (nth xs i).toNat<0
def OkD (s:List Nat) (P:List Int) (V d:Nat):Prop:=
 nth P (vtx s d)<2∨(nth P (vtx s d)=(V:Int)-1∧2≤cntD (fun x=>ahdB s P (nth P (vtx s d)) x) (orbitL s d)) ∨
 (nth P (vtx s d)≠(V:Int)-1∧cntD (fun x=>ahdB s P (nth P (vtx s d)) x && !ahdB s P (nth P (vtx s d)) (at' (invL s) x)) (orbitL s d)=1∧2≤cntD (fun x=>ahdB s P (nth P (vtx s d)) x) (orbitL s d)∧1≤cntD (fun x=>!ahdB s P (nth P (vtx s d)) x) (orbitL s d))
theorem okD_iff (s:List Nat) (P:List Int) (V d:Nat):OkD s P V d ↔
 (nth P (vtx s d)<2∨(nth P (vtx s d)=(V:Int)-1∧2≤cntD (fun x=>ahdB s P (nth P (vtx s d)) x) (orbitL s d)) ∨
 (nth P (vtx s d)≠(V:Int)-1∧cntD (fun x=>ahdB s P (nth P (vtx s d)) x && !ahdB s P (nth P (vtx s d)) (at' (invL s) x)) (orbitL s d)=1∧2≤cntD (fun x=>ahdB s P (nth P (vtx s d)) x) (orbitL s d)∧1≤cntD (fun x=>!ahdB s P (nth P (vtx s d)) x) (orbitL s d))):=Iff.rfl
def RightP (s:List Nat) (r:Nat) (xs:List Int):Prop:=
 xs.length=(sizesL s).length∧nth xs 0=nth (namesL s) r∧nth xs 1=nth (namesL s) (at' (phiL s) r)∧nth xs ((sizesL s).length-1)=nth (namesL s) (at' (phiL s) (at' (phiL s) r)) ∧
 (∀ i,i<(sizesL s).length→NewR xs (sizesL s).length i)∧∀ d,d<s.length→OkD s (plR xs (sizesL s).length (sizesL s).length) (sizesL s).length d
def RetRight (R:Reg) (w:World) (Q:Prop) (e:Ending) (w':World):Prop:=∃ bb R',e=.returned (.bool bb)∧(bb=true↔Q)∧Ev R w R' w'
set_option maxRecDepth 100000 in
set_option maxHeartbeats 6000000 in
theorem sright_any (R:Reg) (w:World) (hI:Inv R w) (p:Value) (s:List Nat) (r:Nat) (hp:MapAt R p s (r:Int) 0) (h:TriS s) (hr:r<s.length) (a0:Option Addr) (n0 c0:Nat) (xs:List Int) (hv:FreeI R w (.slice a0 n0 c0) xs) (hl:xs.length=n0) (hn0:n0≤1000000):
  Calls Try.prog 9 #[p,.slice a0 n0 c0] w (RetRight R w (RightP s r xs)):=by
 have HCo:=Lib.hid (corners_tri R w hI p s r hp h hr)
 obtain⟨V,hV⟩:∃ V,(sizesL s).length=V:=⟨_,rfl⟩
 have HVs:=Lib.hid (fun R' w' (he:Ev R w R' w')=>by
  have:=vertices_any R' w' he.inv p s (r:Int) 0 (he.map hp)
  rwa [Int.add_zero,hV] at this)
 have HDt:=Lib.hid (fun R' w' (he:Ev R w R' w')=>darts_any R' w' he.inv p s (r:Int) 0 (he.map hp))
 have HVx:=Lib.hid (fun R' w' (he:Ev R w R' w') (d:Nat) (hd:d<s.length)=>by
  have:=vertex_any R' w' he.inv p s (r:Int) 0 (he.map hp) (d:Int)
  rwa [nameI_in hd,vtx_eq h.perm hd] at this)
 have hVn:V≤131073:=by
  have k1:=sizesL_le h.perm
  have k2:s.length≤131073:=(hp.ok hI).2.2.1
  omega
 have HMp:=Lib.hid (fun R' w' (he:Ev R w R' w')=>he.map hp)
 obtain⟨e0,he0⟩:∃ c0,nth (namesL s) r=c0:=⟨_,rfl⟩
 obtain⟨e1,he1⟩:∃ c0,nth (namesL s) (at' (phiL s) r)=c0:=⟨_,rfl⟩
 obtain⟨e2,he2⟩:∃ c0,nth (namesL s) (at' (phiL s) (at' (phiL s) r))=c0:=⟨_,rfl⟩
 unfold RetCor cor3 at HCo
 unfold RightP
 rw[he0,he1,he2] at HCo ⊢
 rw[hV]
 have hV3:3≤V:=by rw[←hV];exact h.big
 have HT:=Lib.hid h
 have HV:=Lib.hid hv
 have HL:=Lib.hid hl
 have HVe:=Lib.hid hV
 have HNm:=Lib.hid (show s.length≤131073 from (hp.ok hI).2.2.1)
 obtain⟨pb,rfl,hpb⟩:=hp
 clear hI hpb h hv hl he0 he1 he2 hV
 go_enter Try.func9,Try.ntmps9
 go_wp2_with fail
 refine HCo.out.mono ?_
 rintro e w1 ⟨vc,R1,rfl,hee1,hoc⟩
 obtain⟨gcA,cc,ec,-⟩:=hoc.ints.open
 rw[show ([e0,e1,e2]:List Int).length=3 from rfl] at ec
 subst ec
 have HE1:=Lib.hid hee1
 have HC1:=Lib.hid hoc
 clear hee1 hoc HCo
 go_wp2_with fail
 refine (HVs.out _ _ HE1.out).mono ?_
 rintro e w2 ⟨rfl,R2,hee2⟩
 have HE2:=Lib.hid (HE1.out.trans hee2)
 have HC2:=Lib.hid (HC1.out.ev hee2)
 clear hee2 HC1
 go_wp2_with fail
 obtain⟨gc,rfl,-,-,x0,-⟩:=HC2.out.headAt rfl (i:=0) (by omega)
 obtain⟨_,e,-,-,x1,-⟩:=HC2.out.headAt rfl (i:=1) (by omega)
 cases e
 obtain⟨_,e,-,-,x2,-⟩:=HC2.out.headAt rfl (i:=2) (by omega)
 cases e
 rw[show nth [e0,e1,e2] 0=e0 from rfl] at x0
 rw[show nth [e0,e1,e2] 1=e1 from rfl] at x1
 rw[show nth [e0,e1,e2] 2=e2 from rfl] at x2
 go_cut [59] (fun s59 wx=>∃ (wn:World) (bb:Bool),wn=wx∧s59=.bool bb∧Ev R2 w2 R2 wn∧(bb=false↔(n0=V∧nth xs 0=e0∧nth xs 1=e1∧nth xs (V-1)=e2)))
 case first=>
  by_cases hk:n0=V
  ·obtain⟨gl,ol,e,hy0c⟩:=HV.out.later (i:=0) (by rw[HL.out];omega)
   subst e
   obtain⟨_,_,e,hy1c⟩:=HV.out.later (i:=1) (by rw[HL.out];omega)
   cases e
   obtain⟨_,_,e,hy2c⟩:=HV.out.later (i:=V-1) (by rw[HL.out];omega)
   cases e
   obtain⟨y0,hy0e⟩:∃ y,nth xs 0=y:=⟨_,rfl⟩
   obtain⟨y1,hy1e⟩:∃ y,nth xs 1=y:=⟨_,rfl⟩
   obtain⟨y2,hy2e⟩:∃ y,nth xs (V-1)=y:=⟨_,rfl⟩
   have z0:=hy0c _ _ HE2.out.drew
   have z1:=hy1c _ _ HE2.out.drew
   have z2:=hy2c _ _ HE2.out.drew
   rw[hy0e,Nat.add_zero] at z0
   rw[hy1e] at z1
   rw[hy2e] at z2
   have HY:=Lib.hid (⟨hy0e,hy1e,hy2e⟩:nth xs 0=y0∧nth xs 1=y1∧nth xs (V-1)=y2)
   have hw1:IntKind.i64.wrap ((V:Int)-1)=((V-1:Nat):Int):=by rw[show (V:Int)-1=((V-1:Nat):Int) by omega];exact IntWalk.i64_in _ (by omega)
   have hbn:((V:Int) != (V:Int))=false:=by simp
   have hlt0:(0:Int)<(V:Int):=by omega
   have hlt1:(1:Int)<(V:Int):=by omega
   have hlt0':0<V:=by omega
   have hlt1':1<V:=by omega
   have hlt2':V-1<V:=by omega
   clear hy0c hy1c hy2c hy0e hy1e hy2e
   have hk':V=n0:=hk.symm
   clear hk
   subst hk'
   by_cases hy0:y0=e0
   ·by_cases hy1:y1=e1
    ·by_cases hy2:y2=e2
     ·as_aux_lemma=>
       have hb0:(y0 != e0)=false:=by simp[hy0]
       have hb1:(y1 != e1)=false:=by simp[hy1]
       have hb2:(y2 != e2)=false:=by simp[hy2]
       refine wp_region_held_drew (S:=(fun W:World=>W.cell? ⟨gc,0,none⟩=some (.int .i64 e0)∧W.cell? ⟨gc,1,none⟩=some (.int .i64 e1)∧W.cell? ⟨gc,2,none⟩=some (.int .i64 e2)∧W.cell? ⟨gl,ol,none⟩=some (.int .i64 y0)∧W.cell? ⟨gl,ol+1,none⟩=some (.int .i64 y1)∧W.cell? ⟨gl,ol+(V-1),none⟩=some (.int .i64 y2))) (by kernel_rfl) ⟨x0,x1,x2,z0,z1,z2⟩ (fun hHeld=>?_)
       refine tk 0 (v:=?ft1) ?gt1 ?_
       case gt1=>(intro w' ⟨s0,s1,s2,s3,s4,s5⟩;go_simp;try with_reducible rfl)
       try simp only[Act.put,rd]
       refine tk 1 (v:=(.bool false)) ?gt2 ?_
       case gt2=>(intro w' ⟨s0,s1,s2,s3,s4,s5⟩;go_simp;try with_reducible rfl)
       try simp only[Act.put,rd]
       refine tk 2 (v:=(.bool false)) ?gt3 ?_
       case gt3=>(intro w' ⟨s0,s1,s2,s3,s4,s5⟩;go_simp;try with_reducible rfl)
       try simp only[Act.put,rd]
       refine tk 3 (v:=?ft4) ?gt4 ?_
       case gt4=>(intro w' ⟨s0,s1,s2,s3,s4,s5⟩;go_simp;try with_reducible rfl)
       try simp only[Act.put,rd]
       refine tk 4 (v:=?ft5) ?gt5 ?_
       case gt5=>(intro w' ⟨s0,s1,s2,s3,s4,s5⟩;go_simp;try with_reducible rfl)
       try simp only[Act.put,rd]
       refine tk 5 (v:=?ft6) ?gt6 ?_
       case gt6=>(intro w' ⟨s0,s1,s2,s3,s4,s5⟩;go_simp;try with_reducible rfl)
       try simp only[Act.put,rd]
       refine tk 6 (v:=(.bool false)) ?gt7 ?_
       case gt7=>(intro w' ⟨s0,s1,s2,s3,s4,s5⟩;go_simp;try with_reducible rfl)
       try simp only[Act.put,rd]
       refine tk 7 (v:=(.bool false)) ?gt8 ?_
       case gt8=>(intro w' ⟨s0,s1,s2,s3,s4,s5⟩;go_simp;try with_reducible rfl)
       try simp only[Act.put,rd]
       refine tk 8 (v:=(.bool false)) ?gt9 ?_
       case gt9=>(intro w' ⟨s0,s1,s2,s3,s4,s5⟩;go_simp;try with_reducible rfl)
       try simp only[Act.put,rd]
       refine tk 9 (v:=?ft10) ?gt10 ?_
       case gt10=>(intro w' ⟨s0,s1,s2,s3,s4,s5⟩;go_simp;try with_reducible rfl)
       try simp only[Act.put,rd]
       refine tk 10 (v:=?ft11) ?gt11 ?_
       case gt11=>(intro w' ⟨s0,s1,s2,s3,s4,s5⟩;go_simp;try with_reducible rfl)
       try simp only[Act.put,rd]
       refine tk 11 (v:=?ft12) ?gt12 ?_
       case gt12=>(intro w' ⟨s0,s1,s2,s3,s4,s5⟩;go_simp;try with_reducible rfl)
       try simp only[Act.put,rd]
       refine tk 12 (v:=?ft13) ?gt13 ?_
       case gt13=>(intro w' ⟨s0,s1,s2,s3,s4,s5⟩;go_simp;try with_reducible rfl)
       try simp only[Act.put,rd]
       refine tk 13 (v:=?ft14) ?gt14 ?_
       case gt14=>(intro w' ⟨s0,s1,s2,s3,s4,s5⟩;go_simp;try with_reducible rfl)
       try simp only[Act.put,rd]
       refine tk 14 (v:=?ft15) ?gt15 ?_
       case gt15=>(intro w' ⟨s0,s1,s2,s3,s4,s5⟩;go_simp;try with_reducible rfl)
       try simp only[Act.put,rd]
       refine tk 15 (v:=(.bool false)) ?gt16 ?_
       case gt16=>(intro w' ⟨s0,s1,s2,s3,s4,s5⟩;go_simp;try with_reducible rfl)
       try simp only[Act.put,rd]
       refine tk 16 (v:=(.bool false)) ?gt17 ?_
       case gt17=>(intro w' ⟨s0,s1,s2,s3,s4,s5⟩;go_simp;try with_reducible rfl)
       try simp only[Act.put,rd]
       refine tk 17 (v:=(.bool false)) ?gt18 ?_
       case gt18=>(intro w' ⟨s0,s1,s2,s3,s4,s5⟩;go_simp;try with_reducible rfl)
       try simp only[Act.put,rd]
       refine tk 18 (v:=?ft19) ?gt19 ?_
       case gt19=>(intro w' ⟨s0,s1,s2,s3,s4,s5⟩;go_simp;try with_reducible rfl)
       try simp only[Act.put,rd]
       refine tk 19 (v:=?ft20) ?gt20 ?_
       case gt20=>(intro w' ⟨s0,s1,s2,s3,s4,s5⟩;go_simp;try with_reducible rfl)
       try simp only[Act.put,rd]
       refine tk 20 (v:=?ft21) ?gt21 ?_
       case gt21=>(intro w' ⟨s0,s1,s2,s3,s4,s5⟩;go_simp;try with_reducible rfl)
       try simp only[Act.put,rd]
       refine tk 21 (v:=?ft22) ?gt22 ?_
       case gt22=>(intro w' ⟨s0,s1,s2,s3,s4,s5⟩;go_simp;try with_reducible rfl)
       try simp only[Act.put,rd]
       refine tk 22 (v:=?ft23) ?gt23 ?_
       case gt23=>(intro w' ⟨s0,s1,s2,s3,s4,s5⟩;go_simp;try with_reducible rfl)
       try simp only[Act.put,rd]
       refine tk 23 (v:=?ft24) ?gt24 ?_
       case gt24=>(intro w' ⟨s0,s1,s2,s3,s4,s5⟩;go_simp;try with_reducible rfl)
       try simp only[Act.put,rd]
       refine tk 24 (v:=(.bool false)) ?gt25 ?_
       case gt25=>(intro w' ⟨s0,s1,s2,s3,s4,s5⟩;go_simp;try with_reducible rfl)
       try simp only[Act.put,rd]
       refine tk 25 (v:=(.bool false)) ?gt26 ?_
       case gt26=>(intro w' ⟨s0,s1,s2,s3,s4,s5⟩;go_simp;try with_reducible rfl)
       try simp only[Act.put,rd]
       refine tk 26 (v:=(.bool false)) ?gt27 ?_
       case gt27=>(intro w' ⟨s0,s1,s2,s3,s4,s5⟩;go_simp;try with_reducible rfl)
       try simp only[Act.put,rd]
       refine tk 27 (v:=?ft28) ?gt28 ?_
       case gt28=>(intro w' ⟨s0,s1,s2,s3,s4,s5⟩;go_simp;try with_reducible rfl)
       try simp only[Act.put,rd]
       refine tk 28 (v:=?ft29) ?gt29 ?_
       case gt29=>(intro w' ⟨s0,s1,s2,s3,s4,s5⟩;go_simp;try with_reducible rfl)
       try simp only[Act.put,rd]
       refine tk 29 (v:=?ft30) ?gt30 ?_
       case gt30=>(intro w' ⟨s0,s1,s2,s3,s4,s5⟩;go_simp;try with_reducible rfl)
       try simp only[Act.put,rd]
       refine tk 30 (v:=?ft31) ?gt31 ?_
       case gt31=>(intro w' ⟨s0,s1,s2,s3,s4,s5⟩;go_simp;try with_reducible rfl)
       try simp only[Act.put,rd]
       refine tk 31 (v:=?ft32) ?gt32 ?_
       case gt32=>(intro w' ⟨s0,s1,s2,s3,s4,s5⟩;go_simp;try with_reducible rfl)
       try simp only[Act.put,rd]
       refine tk 32 (v:=?ft33) ?gt33 ?_
       case gt33=>(intro w' ⟨s0,s1,s2,s3,s4,s5⟩;go_simp;try with_reducible rfl)
       try simp only[Act.put,rd]
       refine tk 33 (v:=?ft34) ?gt34 ?_
       case gt34=>(intro w' ⟨s0,s1,s2,s3,s4,s5⟩;go_simp;try with_reducible rfl)
       try simp only[Act.put,rd]
       refine tk 34 (v:=?ft35) ?gt35 ?_
       case gt35=>(intro w' ⟨s0,s1,s2,s3,s4,s5⟩;go_simp;try with_reducible rfl)
       try simp only[Act.put,rd]
       refine tk 35 (v:=(.bool false)) ?gt36 ?_
       case gt36=>(intro w' ⟨s0,s1,s2,s3,s4,s5⟩;go_simp;try with_reducible rfl)
       try simp only[Act.put,rd]
       refine tk 36 (v:=(.bool false)) ?gt37 ?_
       case gt37=>(intro w' ⟨s0,s1,s2,s3,s4,s5⟩;go_simp;try with_reducible rfl)
       try simp only[Act.put,rd]
       refine wpAnyH_done (by kernel_rfl) ?_ _
       go_wp2_with fail
       go_meet
       exact⟨_,false,rfl,rfl,(Ev.refl HE2.out.inv).drew,⟨fun _=>⟨by first|rfl|trivial,by rw[HY.out.1,hy0],by rw[HY.out.2.1,hy1],by rw[HY.out.2.2,hy2]⟩,fun _=>rfl⟩⟩
     ·as_aux_lemma=>
       have HK:=Lib.hid hy2
       have hb0:(y0 != e0)=false:=by simp[hy0]
       have hb1:(y1 != e1)=false:=by simp[hy1]
       have hb2:(y2 != e2)=true:=by simp[HK.out]
       refine wp_region_held_drew (S:=(fun W:World=>W.cell? ⟨gc,0,none⟩=some (.int .i64 e0)∧W.cell? ⟨gc,1,none⟩=some (.int .i64 e1)∧W.cell? ⟨gc,2,none⟩=some (.int .i64 e2)∧W.cell? ⟨gl,ol,none⟩=some (.int .i64 y0)∧W.cell? ⟨gl,ol+1,none⟩=some (.int .i64 y1)∧W.cell? ⟨gl,ol+(V-1),none⟩=some (.int .i64 y2))) (by kernel_rfl) ⟨x0,x1,x2,z0,z1,z2⟩ (fun hHeld=>?_)
       refine tk 0 (v:=?ft38) ?gt38 ?_
       case gt38=>(intro w' ⟨s0,s1,s2,s3,s4,s5⟩;go_simp;try with_reducible rfl)
       try simp only[Act.put,rd]
       refine tk 1 (v:=(.bool false)) ?gt39 ?_
       case gt39=>(intro w' ⟨s0,s1,s2,s3,s4,s5⟩;go_simp;try with_reducible rfl)
       try simp only[Act.put,rd]
       refine tk 2 (v:=(.bool false)) ?gt40 ?_
       case gt40=>(intro w' ⟨s0,s1,s2,s3,s4,s5⟩;go_simp;try with_reducible rfl)
       try simp only[Act.put,rd]
       refine tk 3 (v:=?ft41) ?gt41 ?_
       case gt41=>(intro w' ⟨s0,s1,s2,s3,s4,s5⟩;go_simp;try with_reducible rfl)
       try simp only[Act.put,rd]
       refine tk 4 (v:=?ft42) ?gt42 ?_
       case gt42=>(intro w' ⟨s0,s1,s2,s3,s4,s5⟩;go_simp;try with_reducible rfl)
       try simp only[Act.put,rd]
       refine tk 5 (v:=?ft43) ?gt43 ?_
       case gt43=>(intro w' ⟨s0,s1,s2,s3,s4,s5⟩;go_simp;try with_reducible rfl)
       try simp only[Act.put,rd]
       refine tk 6 (v:=(.bool false)) ?gt44 ?_
       case gt44=>(intro w' ⟨s0,s1,s2,s3,s4,s5⟩;go_simp;try with_reducible rfl)
       try simp only[Act.put,rd]
       refine tk 7 (v:=(.bool false)) ?gt45 ?_
       case gt45=>(intro w' ⟨s0,s1,s2,s3,s4,s5⟩;go_simp;try with_reducible rfl)
       try simp only[Act.put,rd]
       refine tk 8 (v:=(.bool false)) ?gt46 ?_
       case gt46=>(intro w' ⟨s0,s1,s2,s3,s4,s5⟩;go_simp;try with_reducible rfl)
       try simp only[Act.put,rd]
       refine tk 9 (v:=?ft47) ?gt47 ?_
       case gt47=>(intro w' ⟨s0,s1,s2,s3,s4,s5⟩;go_simp;try with_reducible rfl)
       try simp only[Act.put,rd]
       refine tk 10 (v:=?ft48) ?gt48 ?_
       case gt48=>(intro w' ⟨s0,s1,s2,s3,s4,s5⟩;go_simp;try with_reducible rfl)
       try simp only[Act.put,rd]
       refine tk 11 (v:=?ft49) ?gt49 ?_
       case gt49=>(intro w' ⟨s0,s1,s2,s3,s4,s5⟩;go_simp;try with_reducible rfl)
       try simp only[Act.put,rd]
       refine tk 12 (v:=?ft50) ?gt50 ?_
       case gt50=>(intro w' ⟨s0,s1,s2,s3,s4,s5⟩;go_simp;try with_reducible rfl)
       try simp only[Act.put,rd]
       refine tk 13 (v:=?ft51) ?gt51 ?_
       case gt51=>(intro w' ⟨s0,s1,s2,s3,s4,s5⟩;go_simp;try with_reducible rfl)
       try simp only[Act.put,rd]
       refine tk 14 (v:=?ft52) ?gt52 ?_
       case gt52=>(intro w' ⟨s0,s1,s2,s3,s4,s5⟩;go_simp;try with_reducible rfl)
       try simp only[Act.put,rd]
       refine tk 15 (v:=(.bool false)) ?gt53 ?_
       case gt53=>(intro w' ⟨s0,s1,s2,s3,s4,s5⟩;go_simp;try with_reducible rfl)
       try simp only[Act.put,rd]
       refine tk 16 (v:=(.bool false)) ?gt54 ?_
       case gt54=>(intro w' ⟨s0,s1,s2,s3,s4,s5⟩;go_simp;try with_reducible rfl)
       try simp only[Act.put,rd]
       refine tk 17 (v:=(.bool false)) ?gt55 ?_
       case gt55=>(intro w' ⟨s0,s1,s2,s3,s4,s5⟩;go_simp;try with_reducible rfl)
       try simp only[Act.put,rd]
       refine tk 18 (v:=?ft56) ?gt56 ?_
       case gt56=>(intro w' ⟨s0,s1,s2,s3,s4,s5⟩;go_simp;try with_reducible rfl)
       try simp only[Act.put,rd]
       refine tk 19 (v:=?ft57) ?gt57 ?_
       case gt57=>(intro w' ⟨s0,s1,s2,s3,s4,s5⟩;go_simp;try with_reducible rfl)
       try simp only[Act.put,rd]
       refine tk 20 (v:=?ft58) ?gt58 ?_
       case gt58=>(intro w' ⟨s0,s1,s2,s3,s4,s5⟩;go_simp;try with_reducible rfl)
       try simp only[Act.put,rd]
       refine tk 21 (v:=?ft59) ?gt59 ?_
       case gt59=>(intro w' ⟨s0,s1,s2,s3,s4,s5⟩;go_simp;try with_reducible rfl)
       try simp only[Act.put,rd]
       refine tk 22 (v:=?ft60) ?gt60 ?_
       case gt60=>(intro w' ⟨s0,s1,s2,s3,s4,s5⟩;go_simp;try with_reducible rfl)
       try simp only[Act.put,rd]
       refine tk 23 (v:=?ft61) ?gt61 ?_
       case gt61=>(intro w' ⟨s0,s1,s2,s3,s4,s5⟩;go_simp;try with_reducible rfl)
       try simp only[Act.put,rd]
       refine tk 24 (v:=(.bool false)) ?gt62 ?_
       case gt62=>(intro w' ⟨s0,s1,s2,s3,s4,s5⟩;go_simp;try with_reducible rfl)
       try simp only[Act.put,rd]
       refine tk 25 (v:=(.bool false)) ?gt63 ?_
       case gt63=>(intro w' ⟨s0,s1,s2,s3,s4,s5⟩;go_simp;try with_reducible rfl)
       try simp only[Act.put,rd]
       refine tk 26 (v:=(.bool false)) ?gt64 ?_
       case gt64=>(intro w' ⟨s0,s1,s2,s3,s4,s5⟩;go_simp;try with_reducible rfl)
       try simp only[Act.put,rd]
       refine tk 27 (v:=?ft65) ?gt65 ?_
       case gt65=>(intro w' ⟨s0,s1,s2,s3,s4,s5⟩;go_simp;try with_reducible rfl)
       try simp only[Act.put,rd]
       refine tk 28 (v:=?ft66) ?gt66 ?_
       case gt66=>(intro w' ⟨s0,s1,s2,s3,s4,s5⟩;go_simp;try with_reducible rfl)
       try simp only[Act.put,rd]
       refine tk 29 (v:=?ft67) ?gt67 ?_
       case gt67=>(intro w' ⟨s0,s1,s2,s3,s4,s5⟩;go_simp;try with_reducible rfl)
       try simp only[Act.put,rd]
       refine tk 30 (v:=?ft68) ?gt68 ?_
       case gt68=>(intro w' ⟨s0,s1,s2,s3,s4,s5⟩;go_simp;try with_reducible rfl)
       try simp only[Act.put,rd]
       refine tk 31 (v:=?ft69) ?gt69 ?_
       case gt69=>(intro w' ⟨s0,s1,s2,s3,s4,s5⟩;go_simp;try with_reducible rfl)
       try simp only[Act.put,rd]
       refine tk 32 (v:=?ft70) ?gt70 ?_
       case gt70=>(intro w' ⟨s0,s1,s2,s3,s4,s5⟩;go_simp;try with_reducible rfl)
       try simp only[Act.put,rd]
       refine tk 33 (v:=?ft71) ?gt71 ?_
       case gt71=>(intro w' ⟨s0,s1,s2,s3,s4,s5⟩;go_simp;try with_reducible rfl)
       try simp only[Act.put,rd]
       refine tk 34 (v:=?ft72) ?gt72 ?_
       case gt72=>(intro w' ⟨s0,s1,s2,s3,s4,s5⟩;go_simp;try with_reducible rfl)
       try simp only[Act.put,rd]
       refine tk 35 (v:=(.bool true)) ?gt73 ?_
       case gt73=>(intro w' ⟨s0,s1,s2,s3,s4,s5⟩;go_simp;try with_reducible rfl)
       try simp only[Act.put,rd]
       refine tk 36 (v:=(.bool true)) ?gt74 ?_
       case gt74=>(intro w' ⟨s0,s1,s2,s3,s4,s5⟩;go_simp;try with_reducible rfl)
       try simp only[Act.put,rd]
       refine wpAnyH_done (by kernel_rfl) ?_ _
       go_wp2_with fail
       go_meet
       exact⟨_,true,rfl,rfl,(Ev.refl HE2.out.inv).drew,⟨fun q=>absurd q (by decide),fun q=>absurd (HY.out.2.2.symm.trans q.2.2.2) HK.out⟩⟩
    ·as_aux_lemma=>
      have HK:=Lib.hid hy1
      have hb0:(y0 != e0)=false:=by simp[hy0]
      have hb1:(y1 != e1)=true:=by simp[HK.out]
      refine wp_region_held_drew (S:=(fun W:World=>W.cell? ⟨gc,0,none⟩=some (.int .i64 e0)∧W.cell? ⟨gc,1,none⟩=some (.int .i64 e1)∧W.cell? ⟨gc,2,none⟩=some (.int .i64 e2)∧W.cell? ⟨gl,ol,none⟩=some (.int .i64 y0)∧W.cell? ⟨gl,ol+1,none⟩=some (.int .i64 y1)∧W.cell? ⟨gl,ol+(V-1),none⟩=some (.int .i64 y2))) (by kernel_rfl) ⟨x0,x1,x2,z0,z1,z2⟩ (fun hHeld=>?_)
      refine tk 0 (v:=?ft75) ?gt75 ?_
      case gt75=>(intro w' ⟨s0,s1,s2,s3,s4,s5⟩;go_simp;try with_reducible rfl)
      try simp only[Act.put,rd]
      refine tk 1 (v:=(.bool false)) ?gt76 ?_
      case gt76=>(intro w' ⟨s0,s1,s2,s3,s4,s5⟩;go_simp;try with_reducible rfl)
      try simp only[Act.put,rd]
      refine tk 2 (v:=(.bool false)) ?gt77 ?_
      case gt77=>(intro w' ⟨s0,s1,s2,s3,s4,s5⟩;go_simp;try with_reducible rfl)
      try simp only[Act.put,rd]
      refine tk 3 (v:=?ft78) ?gt78 ?_
      case gt78=>(intro w' ⟨s0,s1,s2,s3,s4,s5⟩;go_simp;try with_reducible rfl)
      try simp only[Act.put,rd]
      refine tk 4 (v:=?ft79) ?gt79 ?_
      case gt79=>(intro w' ⟨s0,s1,s2,s3,s4,s5⟩;go_simp;try with_reducible rfl)
      try simp only[Act.put,rd]
      refine tk 5 (v:=?ft80) ?gt80 ?_
      case gt80=>(intro w' ⟨s0,s1,s2,s3,s4,s5⟩;go_simp;try with_reducible rfl)
      try simp only[Act.put,rd]
      refine tk 6 (v:=(.bool false)) ?gt81 ?_
      case gt81=>(intro w' ⟨s0,s1,s2,s3,s4,s5⟩;go_simp;try with_reducible rfl)
      try simp only[Act.put,rd]
      refine tk 7 (v:=(.bool false)) ?gt82 ?_
      case gt82=>(intro w' ⟨s0,s1,s2,s3,s4,s5⟩;go_simp;try with_reducible rfl)
      try simp only[Act.put,rd]
      refine tk 8 (v:=(.bool false)) ?gt83 ?_
      case gt83=>(intro w' ⟨s0,s1,s2,s3,s4,s5⟩;go_simp;try with_reducible rfl)
      try simp only[Act.put,rd]
      refine tk 9 (v:=?ft84) ?gt84 ?_
      case gt84=>(intro w' ⟨s0,s1,s2,s3,s4,s5⟩;go_simp;try with_reducible rfl)
      try simp only[Act.put,rd]
      refine tk 10 (v:=?ft85) ?gt85 ?_
      case gt85=>(intro w' ⟨s0,s1,s2,s3,s4,s5⟩;go_simp;try with_reducible rfl)
      try simp only[Act.put,rd]
      refine tk 11 (v:=?ft86) ?gt86 ?_
      case gt86=>(intro w' ⟨s0,s1,s2,s3,s4,s5⟩;go_simp;try with_reducible rfl)
      try simp only[Act.put,rd]
      refine tk 12 (v:=?ft87) ?gt87 ?_
      case gt87=>(intro w' ⟨s0,s1,s2,s3,s4,s5⟩;go_simp;try with_reducible rfl)
      try simp only[Act.put,rd]
      refine tk 13 (v:=?ft88) ?gt88 ?_
      case gt88=>(intro w' ⟨s0,s1,s2,s3,s4,s5⟩;go_simp;try with_reducible rfl)
      try simp only[Act.put,rd]
      refine tk 14 (v:=?ft89) ?gt89 ?_
      case gt89=>(intro w' ⟨s0,s1,s2,s3,s4,s5⟩;go_simp;try with_reducible rfl)
      try simp only[Act.put,rd]
      refine tk 15 (v:=(.bool false)) ?gt90 ?_
      case gt90=>(intro w' ⟨s0,s1,s2,s3,s4,s5⟩;go_simp;try with_reducible rfl)
      try simp only[Act.put,rd]
      refine tk 16 (v:=(.bool false)) ?gt91 ?_
      case gt91=>(intro w' ⟨s0,s1,s2,s3,s4,s5⟩;go_simp;try with_reducible rfl)
      try simp only[Act.put,rd]
      refine tk 17 (v:=(.bool false)) ?gt92 ?_
      case gt92=>(intro w' ⟨s0,s1,s2,s3,s4,s5⟩;go_simp;try with_reducible rfl)
      try simp only[Act.put,rd]
      refine tk 18 (v:=?ft93) ?gt93 ?_
      case gt93=>(intro w' ⟨s0,s1,s2,s3,s4,s5⟩;go_simp;try with_reducible rfl)
      try simp only[Act.put,rd]
      refine tk 19 (v:=?ft94) ?gt94 ?_
      case gt94=>(intro w' ⟨s0,s1,s2,s3,s4,s5⟩;go_simp;try with_reducible rfl)
      try simp only[Act.put,rd]
      refine tk 20 (v:=?ft95) ?gt95 ?_
      case gt95=>(intro w' ⟨s0,s1,s2,s3,s4,s5⟩;go_simp;try with_reducible rfl)
      try simp only[Act.put,rd]
      refine tk 21 (v:=?ft96) ?gt96 ?_
      case gt96=>(intro w' ⟨s0,s1,s2,s3,s4,s5⟩;go_simp;try with_reducible rfl)
      try simp only[Act.put,rd]
      refine tk 22 (v:=?ft97) ?gt97 ?_
      case gt97=>(intro w' ⟨s0,s1,s2,s3,s4,s5⟩;go_simp;try with_reducible rfl)
      try simp only[Act.put,rd]
      refine tk 23 (v:=?ft98) ?gt98 ?_
      case gt98=>(intro w' ⟨s0,s1,s2,s3,s4,s5⟩;go_simp;try with_reducible rfl)
      try simp only[Act.put,rd]
      refine tk 24 (v:=(.bool true)) ?gt99 ?_
      case gt99=>(intro w' ⟨s0,s1,s2,s3,s4,s5⟩;go_simp;try with_reducible rfl)
      try simp only[Act.put,rd]
      refine tk 25 (v:=(.bool true)) ?gt100 ?_
      case gt100=>(intro w' ⟨s0,s1,s2,s3,s4,s5⟩;go_simp;try with_reducible rfl)
      try simp only[Act.put,rd]
      refine tk 26 (v:=(.bool true)) ?gt101 ?_
      case gt101=>(intro w' ⟨s0,s1,s2,s3,s4,s5⟩;go_simp;try with_reducible rfl)
      try simp only[Act.put,rd]
      refine sk 27 ?_
      try simp only[Act.put,rd]
      refine sk 28 ?_
      try simp only[Act.put,rd]
      refine sk 29 ?_
      try simp only[Act.put,rd]
      refine sk 30 ?_
      try simp only[Act.put,rd]
      refine sk 31 ?_
      try simp only[Act.put,rd]
      refine sk 32 ?_
      try simp only[Act.put,rd]
      refine sk 33 ?_
      try simp only[Act.put,rd]
      refine sk 34 ?_
      try simp only[Act.put,rd]
      refine sk 35 ?_
      try simp only[Act.put,rd]
      refine tk 36 (v:=(.bool true)) ?gt102 ?_
      case gt102=>(intro w' ⟨s0,s1,s2,s3,s4,s5⟩;go_simp;try with_reducible rfl)
      try simp only[Act.put,rd]
      refine wpAnyH_done (by kernel_rfl) ?_ _
      go_wp2_with fail
      go_meet
      exact⟨_,true,rfl,rfl,(Ev.refl HE2.out.inv).drew,⟨fun q=>absurd q (by decide),fun q=>absurd (HY.out.2.1.symm.trans q.2.2.1) HK.out⟩⟩
   ·as_aux_lemma=>
     have HK:=Lib.hid hy0
     have hb0:(y0 != e0)=true:=by simp[HK.out]
     refine wp_region_held_drew (S:=(fun W:World=>W.cell? ⟨gc,0,none⟩=some (.int .i64 e0)∧W.cell? ⟨gc,1,none⟩=some (.int .i64 e1)∧W.cell? ⟨gc,2,none⟩=some (.int .i64 e2)∧W.cell? ⟨gl,ol,none⟩=some (.int .i64 y0)∧W.cell? ⟨gl,ol+1,none⟩=some (.int .i64 y1)∧W.cell? ⟨gl,ol+(V-1),none⟩=some (.int .i64 y2))) (by kernel_rfl) ⟨x0,x1,x2,z0,z1,z2⟩ (fun hHeld=>?_)
     refine tk 0 (v:=?ft103) ?gt103 ?_
     case gt103=>(intro w' ⟨s0,s1,s2,s3,s4,s5⟩;go_simp;try with_reducible rfl)
     try simp only[Act.put,rd]
     refine tk 1 (v:=(.bool false)) ?gt104 ?_
     case gt104=>(intro w' ⟨s0,s1,s2,s3,s4,s5⟩;go_simp;try with_reducible rfl)
     try simp only[Act.put,rd]
     refine tk 2 (v:=(.bool false)) ?gt105 ?_
     case gt105=>(intro w' ⟨s0,s1,s2,s3,s4,s5⟩;go_simp;try with_reducible rfl)
     try simp only[Act.put,rd]
     refine tk 3 (v:=?ft106) ?gt106 ?_
     case gt106=>(intro w' ⟨s0,s1,s2,s3,s4,s5⟩;go_simp;try with_reducible rfl)
     try simp only[Act.put,rd]
     refine tk 4 (v:=?ft107) ?gt107 ?_
     case gt107=>(intro w' ⟨s0,s1,s2,s3,s4,s5⟩;go_simp;try with_reducible rfl)
     try simp only[Act.put,rd]
     refine tk 5 (v:=?ft108) ?gt108 ?_
     case gt108=>(intro w' ⟨s0,s1,s2,s3,s4,s5⟩;go_simp;try with_reducible rfl)
     try simp only[Act.put,rd]
     refine tk 6 (v:=(.bool false)) ?gt109 ?_
     case gt109=>(intro w' ⟨s0,s1,s2,s3,s4,s5⟩;go_simp;try with_reducible rfl)
     try simp only[Act.put,rd]
     refine tk 7 (v:=(.bool false)) ?gt110 ?_
     case gt110=>(intro w' ⟨s0,s1,s2,s3,s4,s5⟩;go_simp;try with_reducible rfl)
     try simp only[Act.put,rd]
     refine tk 8 (v:=(.bool false)) ?gt111 ?_
     case gt111=>(intro w' ⟨s0,s1,s2,s3,s4,s5⟩;go_simp;try with_reducible rfl)
     try simp only[Act.put,rd]
     refine tk 9 (v:=?ft112) ?gt112 ?_
     case gt112=>(intro w' ⟨s0,s1,s2,s3,s4,s5⟩;go_simp;try with_reducible rfl)
     try simp only[Act.put,rd]
     refine tk 10 (v:=?ft113) ?gt113 ?_
     case gt113=>(intro w' ⟨s0,s1,s2,s3,s4,s5⟩;go_simp;try with_reducible rfl)
     try simp only[Act.put,rd]
     refine tk 11 (v:=?ft114) ?gt114 ?_
     case gt114=>(intro w' ⟨s0,s1,s2,s3,s4,s5⟩;go_simp;try with_reducible rfl)
     try simp only[Act.put,rd]
     refine tk 12 (v:=?ft115) ?gt115 ?_
     case gt115=>(intro w' ⟨s0,s1,s2,s3,s4,s5⟩;go_simp;try with_reducible rfl)
     try simp only[Act.put,rd]
     refine tk 13 (v:=?ft116) ?gt116 ?_
     case gt116=>(intro w' ⟨s0,s1,s2,s3,s4,s5⟩;go_simp;try with_reducible rfl)
     try simp only[Act.put,rd]
     refine tk 14 (v:=?ft117) ?gt117 ?_
     case gt117=>(intro w' ⟨s0,s1,s2,s3,s4,s5⟩;go_simp;try with_reducible rfl)
     try simp only[Act.put,rd]
     refine tk 15 (v:=(.bool true)) ?gt118 ?_
     case gt118=>(intro w' ⟨s0,s1,s2,s3,s4,s5⟩;go_simp;try with_reducible rfl)
     try simp only[Act.put,rd]
     refine tk 16 (v:=(.bool true)) ?gt119 ?_
     case gt119=>(intro w' ⟨s0,s1,s2,s3,s4,s5⟩;go_simp;try with_reducible rfl)
     try simp only[Act.put,rd]
     refine tk 17 (v:=(.bool true)) ?gt120 ?_
     case gt120=>(intro w' ⟨s0,s1,s2,s3,s4,s5⟩;go_simp;try with_reducible rfl)
     try simp only[Act.put,rd]
     refine sk 18 ?_
     try simp only[Act.put,rd]
     refine sk 19 ?_
     try simp only[Act.put,rd]
     refine sk 20 ?_
     try simp only[Act.put,rd]
     refine sk 21 ?_
     try simp only[Act.put,rd]
     refine sk 22 ?_
     try simp only[Act.put,rd]
     refine sk 23 ?_
     try simp only[Act.put,rd]
     refine sk 24 ?_
     try simp only[Act.put,rd]
     refine tk 25 (v:=(.bool true)) ?gt121 ?_
     case gt121=>(intro w' ⟨s0,s1,s2,s3,s4,s5⟩;go_simp;try with_reducible rfl)
     try simp only[Act.put,rd]
     refine tk 26 (v:=(.bool true)) ?gt122 ?_
     case gt122=>(intro w' ⟨s0,s1,s2,s3,s4,s5⟩;go_simp;try with_reducible rfl)
     try simp only[Act.put,rd]
     refine sk 27 ?_
     try simp only[Act.put,rd]
     refine sk 28 ?_
     try simp only[Act.put,rd]
     refine sk 29 ?_
     try simp only[Act.put,rd]
     refine sk 30 ?_
     try simp only[Act.put,rd]
     refine sk 31 ?_
     try simp only[Act.put,rd]
     refine sk 32 ?_
     try simp only[Act.put,rd]
     refine sk 33 ?_
     try simp only[Act.put,rd]
     refine sk 34 ?_
     try simp only[Act.put,rd]
     refine sk 35 ?_
     try simp only[Act.put,rd]
     refine tk 36 (v:=(.bool true)) ?gt123 ?_
     case gt123=>(intro w' ⟨s0,s1,s2,s3,s4,s5⟩;go_simp;try with_reducible rfl)
     try simp only[Act.put,rd]
     refine wpAnyH_done (by kernel_rfl) ?_ _
     go_wp2_with fail
     go_meet
     exact⟨_,true,rfl,rfl,(Ev.refl HE2.out.inv).drew,⟨fun q=>absurd q (by decide),fun q=>absurd (HY.out.1.symm.trans q.2.1) HK.out⟩⟩
  ·have hbn:((n0:Int) != (V:Int))=true:=by simp;omega
   have hbn2:¬ ((n0:Int)=(V:Int)):=by omega
   have HK:=Lib.hid hk
   as_aux_lemma=>
    refine wp_region_held_drew (S:=fun W=>True) (by kernel_rfl) trivial (fun hHeld=>?_)
    refine tk 0 (v:=?ft124) ?gt124 ?_
    case gt124=>(intro w' s0;go_simp;try with_reducible rfl)
    try simp only[Act.put,rd]
    refine tk 1 (v:=(.bool false)) ?gt125 ?_
    case gt125=>(intro w' s0;go_simp;try with_reducible rfl)
    try simp only[Act.put,rd]
    refine tk 2 (v:=(.bool false)) ?gt126 ?_
    case gt126=>(intro w' s0;go_simp;try with_reducible rfl)
    try simp only[Act.put,rd]
    refine tk 3 (v:=?ft127) ?gt127 ?_
    case gt127=>(intro w' s0;go_simp;try with_reducible rfl)
    try simp only[Act.put,rd]
    refine tk 4 (v:=?ft128) ?gt128 ?_
    case gt128=>(intro w' s0;go_simp;try with_reducible rfl)
    try simp only[Act.put,rd]
    refine tk 5 (v:=?ft129) ?gt129 ?_
    case gt129=>(intro w' s0;go_simp;try with_reducible rfl)
    try simp only[Act.put,rd]
    refine tk 6 (v:=(.bool true)) ?gt130 ?_
    case gt130=>(intro w' s0;go_simp;try with_reducible rfl)
    try simp only[Act.put,rd]
    refine tk 7 (v:=(.bool true)) ?gt131 ?_
    case gt131=>(intro w' s0;go_simp;try with_reducible rfl)
    try simp only[Act.put,rd]
    refine tk 8 (v:=(.bool true)) ?gt132 ?_
    case gt132=>(intro w' s0;go_simp;try with_reducible rfl)
    try simp only[Act.put,rd]
    refine sk 9 ?_
    try simp only[Act.put,rd]
    refine sk 10 ?_
    try simp only[Act.put,rd]
    refine sk 11 ?_
    try simp only[Act.put,rd]
    refine sk 12 ?_
    try simp only[Act.put,rd]
    refine sk 13 ?_
    try simp only[Act.put,rd]
    refine sk 14 ?_
    try simp only[Act.put,rd]
    refine sk 15 ?_
    try simp only[Act.put,rd]
    refine tk 16 (v:=(.bool true)) ?gt133 ?_
    case gt133=>(intro w' s0;go_simp;try with_reducible rfl)
    try simp only[Act.put,rd]
    refine tk 17 (v:=(.bool true)) ?gt134 ?_
    case gt134=>(intro w' s0;go_simp;try with_reducible rfl)
    try simp only[Act.put,rd]
    refine sk 18 ?_
    try simp only[Act.put,rd]
    refine sk 19 ?_
    try simp only[Act.put,rd]
    refine sk 20 ?_
    try simp only[Act.put,rd]
    refine sk 21 ?_
    try simp only[Act.put,rd]
    refine sk 22 ?_
    try simp only[Act.put,rd]
    refine sk 23 ?_
    try simp only[Act.put,rd]
    refine sk 24 ?_
    try simp only[Act.put,rd]
    refine tk 25 (v:=(.bool true)) ?gt135 ?_
    case gt135=>(intro w' s0;go_simp;try with_reducible rfl)
    try simp only[Act.put,rd]
    refine tk 26 (v:=(.bool true)) ?gt136 ?_
    case gt136=>(intro w' s0;go_simp;try with_reducible rfl)
    try simp only[Act.put,rd]
    refine sk 27 ?_
    try simp only[Act.put,rd]
    refine sk 28 ?_
    try simp only[Act.put,rd]
    refine sk 29 ?_
    try simp only[Act.put,rd]
    refine sk 30 ?_
    try simp only[Act.put,rd]
    refine sk 31 ?_
    try simp only[Act.put,rd]
    refine sk 32 ?_
    try simp only[Act.put,rd]
    refine sk 33 ?_
    try simp only[Act.put,rd]
    refine sk 34 ?_
    try simp only[Act.put,rd]
    refine sk 35 ?_
    try simp only[Act.put,rd]
    refine tk 36 (v:=(.bool true)) ?gt137 ?_
    case gt137=>(intro w' s0;go_simp;try with_reducible rfl)
    try simp only[Act.put,rd]
    refine wpAnyH_done (by kernel_rfl) ?_ _
    go_wp2_with fail
    go_meet
    exact⟨_,true,rfl,rfl,(Ev.refl HE2.out.inv).drew,⟨fun q=>absurd q (by decide),fun q=>absurd q.1 HK.out⟩⟩
 case rest=>
  obtain⟨wx,bb,rfl,rfl,he3,hbb⟩:=hcut
  have HE3:=Lib.hid (HE2.out.trans he3)
  have HBb:=Lib.hid hbb
  clear he3 hbb HC2 HE2 HE1 HVs
  cases bb
  case true=>
   have HNo:Hid (¬ (n0=V∧nth xs 0=e0∧nth xs 1=e1∧nth xs (V-1)=e2)):=Lib.hid fun q=>by have:=HBb.out.2 q;cases this
   clear HBb
   go_wp2_with fail
   go_ret
   exact⟨false,R2,rfl,⟨fun q=>absurd q (by decide),fun q=>absurd ⟨by rw[←HL.out];exact q.1,q.2.1,q.2.2.1,q.2.2.2.1⟩ HNo.out⟩,HE3.out⟩
  case false=>
   have HYs:=Lib.hid (HBb.out.1 rfl)
   clear HBb
   have he4:=HE3.out.alloc (.cells #[.int .i64 (-1)] 3)
   have HRp:=Lib.hid (repeat_one R2 _ he4.inv _ (-1) (Ints.alone wx (-1)) V (by omega))
   have HE4:=Lib.hid he4
   clear he4
   go_wp2_with fail
   refine HRp.out.mono ?_
   rintro e w5 ⟨v5,rfl,he5,ho5⟩
   obtain⟨a5,c5,rfl,-⟩:=ho5.ints.open
   rw[List.length_replicate] at ho5 ⊢
   obtain⟨gp,rfl,-,-,-,-⟩:=ho5.headAt (List.length_replicate ..) (i:=0) (by omega)
   have HE5:=Lib.hid (HE4.out.trans he5)
   have HO5:=Lib.hid ho5
   have hnV:n0=V:=HYs.out.1
   have HV5:=Lib.hid (HV.out.ev HE5.out)
   subst hnV
   clear he5 ho5 HRp HE4
   have HOw:=Lib.hid (HO5.out.mono (show w.heap.size≤_ from (HE3.out.alloc (.cells #[.int .i64 (-1)] 3)).size))
   clear HO5
   go_wp2_with fail
   as_aux_lemma=>
    go_loopg [65] n0 (fun g v65 wq=>∃ (i:Nat),i≤n0∧n0-i≤g∧v65=.int .i64 (i:Int)∧Ev R w R2 wq∧OwnI R2 w.heap.size 3 wq (.slice (some ⟨gp,0,none⟩) n0 c5) (plR xs n0 i)∧∀ j,j<i→NewR xs n0 j)
    case atStart=>exact⟨0,Nat.zero_le _,by omega,rfl,HE5.out,HOw.out,fun j hj=>absurd hj (Nat.not_lt_zero _)⟩
    case round=>
     obtain⟨i,hin,hg,rfl,he,ho,hall⟩:=hrel
     as_aux_lemma=>
      have HE:=Lib.hid he
      have HO:=Lib.hid ho
      have HAl:=Lib.hid hall
      clear he ho hall HOw HE5 HV5
      by_cases hil:i<n0
      ·obtain⟨gl,ol,rfl,hcl⟩:=HV.out.later (i:=i) (by rw[HL.out];exact hil)
       have z0:=hcl _ _ HE.out
       obtain⟨y,hy⟩:∃ y,nth xs i=y:=⟨_,rfl⟩
       rw[hy] at z0
       have HY:=Lib.hid hy
       clear hcl hy
       by_cases hy0:y<0
       ·have HNo:Hid (¬ NewR xs n0 i):=Lib.hid fun q=>by have:=q.1;rw[HY.out] at this;omega
        have hb:decide (y<0)=true:=decide_eq_true hy0
        go_wp2_with fail
        go_ret
        exact⟨false,R2,rfl,⟨fun q=>absurd q (by decide),fun q=>absurd (q.2.2.2.2.1 i hil) HNo.out⟩,HE.out⟩
       ·have hb:decide (y<0)=false:=decide_eq_false hy0
        by_cases hyn:(n0:Int)≤y
        ·have HNo:Hid (¬ NewR xs n0 i):=Lib.hid fun q=>by have:=q.2.1;rw[HY.out] at this;omega
         have hb2:decide ((n0:Int)≤y)=true:=decide_eq_true hyn
         go_wp2_with fail
         go_ret
         exact⟨false,R2,rfl,⟨fun q=>absurd q (by decide),fun q=>absurd (q.2.2.2.2.1 i hil) HNo.out⟩,HE.out⟩
        ·obtain⟨k,rfl⟩:∃ k:Nat,y=(k:Int):=⟨y.toNat,by omega⟩
         have hkn:k<n0:=by omega
         obtain⟨gq,e,-,hgn,hc,hz⟩:=HO.out.headAt (plR_length xs n0 i) hkn
         cases e
         obtain⟨z,hze⟩:∃ z,nth (plR xs n0 i) k=z:=⟨_,rfl⟩
         rw[hze] at hc
         have HZe:=Lib.hid hze
         have hb2:¬ ((n0:Int)≤(k:Int)):=hyn
         have hb3:¬ (n0≤k):=by omega
         clear hze hyn hy0 hb
         by_cases hz0:0≤z
         ·have HNo:Hid (¬ NewR xs n0 i):=Lib.hid fun q=>by have:=q.2.2;rw[HY.out,Int.toNat_natCast,HZe.out] at this;omega
          go_wp2_with fail
          go_ret
          exact⟨false,R2,rfl,⟨fun q=>absurd q (by decide),fun q=>absurd (q.2.2.2.2.1 i hil) HNo.out⟩,HE.out⟩
         ·have HNw:Hid (NewR xs n0 i):=Lib.hid ⟨by rw[HY.out];omega,by rw[HY.out];omega,by rw[HY.out,Int.toNat_natCast,HZe.out];omega⟩
          have hst:=HO.out.put (plR_length xs n0 i) k hkn (i:Int)
          have hps:(plR xs n0 i).set k (i:Int)=plR xs n0 (i+1):=by show _=(plR xs n0 i).set (nth xs i).toNat (i:Int);rw[HY.out,Int.toNat_natCast]
          rw[hps] at hst
          have HST:=Lib.hid hst
          have hgw:w.heap.size≤gp:=(HO.out.lt gp rfl).1
          clear hst hps
          go_wp2_with fail
          go_roundg (n0-(i+1))
          case measure=>omega
          case rel=>exact⟨i+1,by omega,by omega,by go_num,HE.out.setCell (p:=⟨gp,k,none⟩) hgw hgn _,HST.out,fun j hj=>by
           rcases (by omega:j<i∨j=i) with q|q
           ·exact HAl.out j q
           ·rw[q];exact HNw.out⟩
      ·obtain rfl:n0=i:=by omega
       go_wp2_with fail
       refine (HDt.out _ _ HE.out).mono ?_
       rintro e w' ⟨rfl,rfl⟩
       have hfr:=HO.out.free
       obtain⟨P,hP⟩:∃ P,plR xs n0 n0=P:=⟨_,rfl⟩
       rw[hP] at hfr
       have hPl:P.length=n0:=by rw[←hP];exact plR_length xs n0 n0
       obtain⟨wd,hwd⟩:∃ wd:World,wd=wr:=⟨_,rfl⟩
       subst hwd
       obtain⟨N,hN⟩:∃ N,s.length=N:=⟨_,rfl⟩
       have HRu:=Lib.hid (fun R' w' (h:Ev R2 wd R' w') (d:Nat) (hd:d<N)=>runs_any R' w' h.inv _ s (r:Int) 0 (HMp.out _ _ (HE.out.trans h)) (some ⟨gp,0,none⟩) n0 c5 P (hfr.ev h) hPl (by rw[HVe.out];exact Nat.le_refl _) d (by rw[hN];exact hd))
       have HVd:=Lib.hid (fun R' w' (h:Ev R2 wd R' w') (d:Nat) (hd:d<N)=>HVx.out R' w' (HE.out.trans h) d (by rw[hN];exact hd))
       have HPc:=Lib.hid (fun R' w' (h:Ev R2 wd R' w') (k:Nat) (hk:k<n0)=>(by
        obtain⟨g,o,e,hc⟩:=hfr.later (i:=k) (by rw[hPl];exact hk)
        cases e
        have:=hc R' w' h
        rwa [Nat.zero_add] at this:w'.cell? ⟨gp,k,none⟩=some (.int .i64 (nth P k))))
       have HVl:Hid (∀ d,d<N→vtx s d<n0):=Lib.hid fun d hd=>by rw[←HVe.out];exact vtx_lt HT.out.perm (by rw[hN];exact hd)
       have HPe:=Lib.hid hP
       have HNe:=Lib.hid hN
       have HI6:=Lib.hid (Ev.refl HE.out.inv)
       have hNm:N≤131073:=by rw[←hN];exact HNm.out
       rw[hN]
       clear hfr hPl hN HDt HVx HMp HO
       go_wp2_with fail
       have HG:=Lib.hid HE.out
       have HQ:Hid (xs.length=n0∧nth xs 0=e0∧nth xs 1=e1∧nth xs (n0-1)=e2∧∀ i,i<n0→NewR xs n0 i):=Lib.hid ⟨HL.out,HYs.out.2.1,HYs.out.2.2.1,HYs.out.2.2.2,HAl.out⟩
       clear HE HAl HYs HL HV
       as_aux_lemma=>
        go_loopg [91] N (fun g v91 wq=>∃ (d:Nat) (R6:Reg),d≤N∧N-d≤g∧v91=.int .i64 (d:Int)∧Ev R2 wd R6 wq∧∀ j,j<d→OkD s P n0 j)
        case atStart=>exact⟨0,R2,Nat.zero_le _,by omega,rfl,HI6.out,fun j hj=>absurd hj (Nat.not_lt_zero _)⟩
        case round=>
         obtain⟨d,R6,hdn,hg,rfl,he6,hall⟩:=hrel
         as_aux_lemma=>
          have HE6:=Lib.hid he6
          have HAd:=Lib.hid hall
          clear he6 hall HI6
          by_cases hdN:d<N
          ·have HR1:=Lib.hid (HRu.out _ _ HE6.out d hdN)
           have HV1:=Lib.hid (fun R' w' (h:Ev R2 wd R' w')=>HVd.out R' w' h d hdN)
           have hvl:=HVl.out d hdN
           have HC1:=Lib.hid (fun R' w' (h:Ev R2 wd R' w')=>HPc.out R' w' h (vtx s d) hvl)
           have hok:=okD_iff s P n0 d
           obtain⟨vd,hvd⟩:∃ vd,vtx s d=vd:=⟨_,rfl⟩
           rw[hvd] at HR1 HV1 hvl HC1 hok
           obtain⟨o,ho⟩:∃ o,nth P vd=o:=⟨_,rfl⟩
           rw[ho] at HR1 HC1 hok
           obtain⟨ca,hca⟩:∃ x,cntD (fun x=>ahdB s P o x && !ahdB s P o (at' (invL s) x)) (orbitL s d)=x:=⟨_,rfl⟩
           obtain⟨cb,hcb⟩:∃ x,cntD (fun x=>ahdB s P o x) (orbitL s d)=x:=⟨_,rfl⟩
           obtain⟨cx,hcx⟩:∃ x,cntD (fun x=>!ahdB s P o x) (orbitL s d)=x:=⟨_,rfl⟩
           rw[hca,hcb,hcx] at HR1 hok
           have HOk:=Lib.hid hok
           have hw1:IntKind.i64.wrap ((n0:Int)-1)=((n0-1:Nat):Int):=by rw[show (n0:Int)-1=((n0-1:Nat):Int) by omega];exact IntWalk.i64_in _ (by omega)
           have hn1:((n0-1:Nat):Int)=(n0:Int)-1:=by omega
           have HN1:=Lib.hid hn1
           clear hok hvd ho hca hcb hcx hn1
           go_wp2_with fail
           refine HR1.out.mono ?_
           rintro e w7 ⟨rfl,R7,he7⟩
           have HE7:=Lib.hid (HE6.out.trans he7)
           clear he7
           go_wp2_with fail
           refine (HV1.out _ _ HE7.out).mono ?_
           rintro e w8 ⟨rfl,R8,he8⟩
           have HE8:=Lib.hid (HE7.out.trans he8)
           clear he8
           have z0:=HC1.out _ _ HE8.out
           by_cases ho2:o<2
           ·have HYe:Hid (OkD s P n0 d):=Lib.hid (HOk.out.2 (.inl ho2))
            have hb:decide (o<2)=true:=decide_eq_true ho2
            go_wp2_with fail
            go_roundg (N-(d+1))
            case measure=>omega
            case rel=>exact⟨d+1,R8,by omega,by omega,by go_num,HE8.out,fun j hj=>by
             rcases (by omega:j<d∨j=d) with q|q
             ·exact HAd.out j q
             ·rw[q];exact HYe.out⟩
           ·have hb:decide (o<2)=false:=decide_eq_false ho2
            by_cases hol:o=((n0-1:Nat):Int)
            ·have hb2:(o == ((n0-1:Nat):Int))=true:=beq_iff_eq.2 hol
             have HOl:=Lib.hid (hol.trans HN1.out)
             have HO2:=Lib.hid ho2
             by_cases hcb2:cb<2
             ·have HNo:Hid (¬ OkD s P n0 d):=Lib.hid fun q=>by
               rcases HOk.out.1 q with t|t|t
               ·exact HO2.out t
               ·omega
               ·exact t.1 HOl.out
              have hb3:decide ((cb:Int)<2)=true:=decide_eq_true (by omega)
              clear hol ho2
              go_wp2_with fail
              go_ret
              exact⟨false,R8,rfl,⟨fun q=>absurd q (by decide),fun q=>absurd (by have t:=q.2.2.2.2.2 d (by rw[HNe.out];exact hdN);rw[HPe.out] at t;exact t) HNo.out⟩,HG.out.trans HE8.out⟩
             ·have HYe:Hid (OkD s P n0 d):=Lib.hid (HOk.out.2 (.inr (.inl ⟨HOl.out,by omega⟩)))
              have hb3:decide ((cb:Int)<2)=false:=decide_eq_false (by omega)
              clear hol ho2
              go_wp2_with fail
              go_roundg (N-(d+1))
              case measure=>omega
              case rel=>exact⟨d+1,R8,by omega,by omega,by go_num,HE8.out,fun j hj=>by
               rcases (by omega:j<d∨j=d) with q|q
               ·exact HAd.out j q
               ·rw[q];exact HYe.out⟩
            ·have hb2:(o == ((n0-1:Nat):Int))=false:=beq_eq_false_iff_ne.2 hol
             have HOl:Hid (o≠(n0:Int)-1):=Lib.hid fun q=>hol (q.trans HN1.out.symm)
             have HO2:=Lib.hid ho2
             clear hol ho2
             by_cases hca1:ca=1
             ·have hb3:((ca:Int) != 1)=false:=by simp;omega
              by_cases hcb2:cb<2
              ·have HNo:Hid (¬ OkD s P n0 d):=Lib.hid fun q=>by
                rcases HOk.out.1 q with t|t|t
                ·exact HO2.out t
                ·exact HOl.out t.1
                ·omega
               have hb4:decide ((cb:Int)<2)=true:=decide_eq_true (by omega)
               subst hca1
               go_wp2_with fail
               go_ret
               exact⟨false,R8,rfl,⟨fun q=>absurd q (by decide),fun q=>absurd (by have t:=q.2.2.2.2.2 d (by rw[HNe.out];exact hdN);rw[HPe.out] at t;exact t) HNo.out⟩,HG.out.trans HE8.out⟩
              ·have hb4:decide ((cb:Int)<2)=false:=decide_eq_false (by omega)
               by_cases hcx1:cx<1
               ·have HNo:Hid (¬ OkD s P n0 d):=Lib.hid fun q=>by
                 rcases HOk.out.1 q with t|t|t
                 ·exact HO2.out t
                 ·exact HOl.out t.1
                 ·omega
                have hb5:decide ((cx:Int)<1)=true:=decide_eq_true (by omega)
                subst hca1
                go_wp2_with fail
                go_ret
                exact⟨false,R8,rfl,⟨fun q=>absurd q (by decide),fun q=>absurd (by have t:=q.2.2.2.2.2 d (by rw[HNe.out];exact hdN);rw[HPe.out] at t;exact t) HNo.out⟩,HG.out.trans HE8.out⟩
               ·have HYe:Hid (OkD s P n0 d):=Lib.hid (HOk.out.2 (.inr (.inr ⟨HOl.out,hca1,by omega,by omega⟩)))
                have hb5:decide ((cx:Int)<1)=false:=decide_eq_false (by omega)
                subst hca1
                go_wp2_with fail
                go_roundg (N-(d+1))
                case measure=>omega
                case rel=>exact⟨d+1,R8,by omega,by omega,by go_num,HE8.out,fun j hj=>by
                 rcases (by omega:j<d∨j=d) with q|q
                 ·exact HAd.out j q
                 ·rw[q];exact HYe.out⟩
             ·have HNo:Hid (¬ OkD s P n0 d):=Lib.hid fun q=>by
               rcases HOk.out.1 q with t|t|t
               ·exact HO2.out t
               ·exact HOl.out t.1
               ·exact hca1 t.2.1
              have hb3:((ca:Int) != 1)=true:=by simp;omega
              go_wp2_with fail
              go_ret
              exact⟨false,R8,rfl,⟨fun q=>absurd q (by decide),fun q=>absurd (by have t:=q.2.2.2.2.2 d (by rw[HNe.out];exact hdN);rw[HPe.out] at t;exact t) HNo.out⟩,HG.out.trans HE8.out⟩
          ·obtain rfl:N=d:=by omega
           have HAll:Hid (∀ j,j<s.length→OkD s (plR xs n0 n0) n0 j):=Lib.hid fun j hj=>by rw[HPe.out];exact HAd.out j (by rw[←HNe.out];exact hj)
           go_wp2_with fail
           go_ret
           exact⟨true,R6,rfl,⟨fun _=>⟨HQ.out.1,HQ.out.2.1,HQ.out.2.2.1,HQ.out.2.2.2.1,HQ.out.2.2.2.2,HAll.out⟩,fun _=>rfl⟩,HG.out.trans HE6.out⟩
end
section
set_option linter.unusedVariables false
set_option linter.unusedSectionVars false
theorem cntD_tally {f:Nat→Bool} {n:Nat}:∀ {T:List Nat},T.Nodup→(∀ x,x∈T→x<n)→cntD f T=tally (fun x=>x∈T∧f x=true) n
 | [],_,_=>by rw[tally_none fun k _ q=>by simp at q];rfl
 | a :: T,hn,hb=>by
  obtain⟨h1,h2⟩:=List.nodup_cons.1 hn
  have ih:=cntD_tally (f:=f) h2 (fun x hx=>hb x (List.mem_cons_of_mem _ hx))
  unfold cntD at ih ⊢
  by_cases q:f a=true
  ·rw[List.filter_cons_of_pos q,List.length_cons,ih,tally_but (p:=fun x=>x∈a :: T∧f x=true) (a:=a) (hb a List.mem_cons_self) ⟨List.mem_cons_self,q⟩]
   congr 1
   refine tally_congr fun x _=>⟨fun k=>⟨⟨List.mem_cons_of_mem _ k.1,k.2⟩,fun e=>h1 (by rw[←e];exact k.1)⟩,fun k=>⟨?_,k.1.2⟩⟩
   rcases List.mem_cons.1 k.1.1 with e|e
   ·exact absurd e k.2
   ·exact e
  ·rw[List.filter_cons_of_neg q,ih]
   refine tally_congr fun x _=>⟨fun k=>⟨List.mem_cons_of_mem _ k.1,k.2⟩,fun k=>⟨?_,k.2⟩⟩
   rcases List.mem_cons.1 k.1 with e|e
   ·exact absurd (by rw[←e];exact k.2) q
   ·exact e
section
variable {s : List Nat} (h : TriS s)
include h
theorem cnt_at {f:Nat→Bool} {d:Nat} (hd:d<s.length):cntD f (orbitL s d)=tally (fun x=>nth (namesL s) x=nth (namesL s) d∧f x=true) s.length:=by
 rw[cntD_tally (orbitL_nodup h.perm hd) (fun x hx=>orbitL_lt h.perm hd x hx)]
 refine tally_congr fun x hx=>?_
 rw[names_orbit h.perm hd]
 exact⟨fun k=>⟨k.1.2,k.2⟩,fun k=>⟨⟨hx,k.1⟩,k.2⟩⟩
theorem cnt_begin {F:Nat→Bool} {d:Nat} (hd:d<s.length):cntD (fun x=>F x && !F (at' (invL s) x)) (orbitL s d)=tally (fun y=>nth (namesL s) y=nth (namesL s) d∧F y=false∧F (at' s y)=true) s.length:=by
 rw[cnt_at h hd,←tally_perm h.perm.pm]
 refine tally_congr fun y hy=>?_
 rw[names_turn h.perm hy,invL_at h.perm hy]
 simp only[Bool.and_eq_true,Bool.not_eq_true']
 exact⟨fun k=>⟨k.1,k.2.2,k.2.1⟩,fun k=>⟨k.1,k.2.2,k.2.1⟩⟩
variable {r : Nat} (hr : r < s.length)
include hr
end
end
end Go.Proofs.Ytgphnkkdmlohlaa
