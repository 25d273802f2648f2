/- GrowKeeps, the walk: it answers true. Conditions: none. -/
import Derived.Test.YtklkgicjfnbndaaZGrowKeeps40
import Derived.Test.YtklkgicjfnbndaaZGrowKeeps38
import Derived.Test.YtklkgicjfnbndaaZGrowKeeps19
import Derived.Test.YtklkgicjfnbndaaZGrowKeeps36
namespace Go.Proofs.Ytklkgicjfnbndaa
open Go.RowKit
set_option linter.unusedVariables false
set_option linter.unusedSimpArgs false
def at3 (ws:List (Nat × Nat × Nat)) (i:Nat):Nat × Nat × Nat:=ws.getD i (0,0,0)
def FreeA (R:Reg) (w:World) (v:Value) (ws:List (Nat × Nat × Nat)):Prop:=
 ∃ a cap,v=.slice a ws.length cap∧ws.length≤maxLen∧∀ i,i<ws.length→∃ b off,a=some ⟨b,off,none⟩∧R b=none∧w.cell? ⟨b,off+3*i,none⟩=some (.int .u8 ((at3 ws i).1:Int))∧w.cell? ⟨b,off+3*i+1,none⟩=some (.int .u8 ((at3 ws i).2.1:Int))∧w.cell? ⟨b,off+3*i+2,none⟩=some (.int .u8 ((at3 ws i).2.2:Int))∧(at3 ws i).1≤255∧(at3 ws i).2.1≤255∧(at3 ws i).2.2≤255
theorem FreeA.ev {R R1:Reg} {w w1:World} {v:Value} {ws:List (Nat × Nat × Nat)} (h:FreeA R w v ws) (he:Ev R w R1 w1):FreeA R1 w1 v ws:=by
 obtain⟨a,cap,h1,h2,h3⟩:=h
 refine⟨a,cap,h1,h2,fun i hi=>?_⟩
 obtain⟨b,off,e,hb,c0,c1,c2,l⟩:=h3 i hi
 have hlt:=lt_of_cell c0
 exact⟨b,off,e,he.free b hlt hb,(he.cell hlt hb).trans c0,(he.cell hlt hb).trans c1,(he.cell hlt hb).trans c2,l⟩
theorem FreeA.cells {R:Reg} {w:World} {a:Option Addr} {n c:Nat} {ws:List (Nat × Nat × Nat)} (h:FreeA R w (.slice a n c) ws) (i:Nat) (hi:i<ws.length):∃ b off,a=some ⟨b,off,none⟩∧R b=none∧w.cell? ⟨b,off+3*i,none⟩=some (.int .u8 ((at3 ws i).1:Int))∧w.cell? ⟨b,off+3*i+1,none⟩=some (.int .u8 ((at3 ws i).2.1:Int))∧w.cell? ⟨b,off+3*i+2,none⟩=some (.int .u8 ((at3 ws i).2.2:Int))∧(at3 ws i).1≤255∧(at3 ws i).2.1≤255∧(at3 ws i).2.2≤255:=by
 obtain⟨a',cap,e,_,h⟩:=h
 cases e
 exact h i hi
theorem build_two (x y:Int) (W:World):(Instr.build 45 #[(0,.int .i64 x),(1,.int .i64 y)]).run Try.prog W=.ok (.agg #[.int .i64 x,.int .i64 y]) W:=by kernel_rfl
theorem build_five (a b c d e f g h p q:Int) (W:World):(Instr.build 46 #[(0,.agg #[.int .i64 a,.int .i64 b]),(1,.agg #[.int .i64 c,.int .i64 d]),(2,.agg #[.int .i64 e,.int .i64 f]),(3,.agg #[.int .i64 g,.int .i64 h]),(4,.agg #[.int .i64 p,.int .i64 q])]).run Try.prog W=.ok (.agg #[.int .i64 a,.int .i64 b,.int .i64 c,.int .i64 d,.int .i64 e,.int .i64 f,.int .i64 g,.int .i64 h,.int .i64 p,.int .i64 q]) W:=by kernel_rfl
theorem ex_build {P:Program} {ρ:Operand→Value} {o:Oper} {t:TypeId} {parts:Array (Nat × Operand)} {vs:Array (Nat × Value)} {v:Value} {w w':World} (hb:(Instr.build t vs).run P w=.ok v w') (he:(parts.map fun x=>(x.1,ρ x.2))=vs) (ho:o.op=.build t parts):(execOp ρ o).run P w=.ok (.value v) w':=by
 subst he
 unfold execOp
 rw[ho]
 show ((Instr.build t (parts.map fun x=>(x.1,ρ x.2))).bind fun x=>Sem.pure (Next.value x)).run P w=_
 rw[Sem.run_bind',hb]
 rfl
theorem index_five (a b c d e f g h p q:Int) (W:World):
  (Instr.index 46 (.agg #[.int .i64 a,.int .i64 b,.int .i64 c,.int .i64 d,.int .i64 e,.int .i64 f,.int .i64 g,.int .i64 h,.int .i64 p,.int .i64 q]) (.int .i64 0)).run Try.prog W=.ok (.agg #[.int .i64 a,.int .i64 b]) W ∧
  (Instr.index 46 (.agg #[.int .i64 a,.int .i64 b,.int .i64 c,.int .i64 d,.int .i64 e,.int .i64 f,.int .i64 g,.int .i64 h,.int .i64 p,.int .i64 q]) (.int .i64 1)).run Try.prog W=.ok (.agg #[.int .i64 c,.int .i64 d]) W ∧
  (Instr.index 46 (.agg #[.int .i64 a,.int .i64 b,.int .i64 c,.int .i64 d,.int .i64 e,.int .i64 f,.int .i64 g,.int .i64 h,.int .i64 p,.int .i64 q]) (.int .i64 2)).run Try.prog W=.ok (.agg #[.int .i64 e,.int .i64 f]) W ∧
  (Instr.index 46 (.agg #[.int .i64 a,.int .i64 b,.int .i64 c,.int .i64 d,.int .i64 e,.int .i64 f,.int .i64 g,.int .i64 h,.int .i64 p,.int .i64 q]) (.int .i64 3)).run Try.prog W=.ok (.agg #[.int .i64 g,.int .i64 h]) W ∧
  (Instr.index 46 (.agg #[.int .i64 a,.int .i64 b,.int .i64 c,.int .i64 d,.int .i64 e,.int .i64 f,.int .i64 g,.int .i64 h,.int .i64 p,.int .i64 q]) (.int .i64 4)).run Try.prog W=.ok (.agg #[.int .i64 p,.int .i64 q]) W:=⟨by kernel_rfl,by kernel_rfl,by kernel_rfl,by kernel_rfl,by kernel_rfl⟩
def wvK (W:Nat):Int:=match W with|0=>1|2=>1|3=>1|_=>0
def wfK (s:List Nat) (W k:Nat):Int:=match W with|1=>1|3=>((orbitL (phiL s) k).length:Int)-1|_=>0
theorem way_keeps {s:List Nat} (hs:IsPerm s) (hes:s.length % 2=0) {W k l:Nat} (hW:W<5) (hk:k<s.length) (hl:l<s.length) (hb:wayB s W (k:Int) (l:Int)=true) {F:Nat} (hF:3≤F) (h:FaceB s F):
  GrownL s (wayL s W (k:Int) (l:Int)) (wvK W) (wfK s W k)∧FaceB (wayL s W (k:Int) (l:Int)) (F+2)∧(wayL s W (k:Int) (l:Int)).length≤s.length+2*F+2:=by
 rcases (by omega:W=0∨W=1∨W=2∨W=3∨W=4) with rfl|rfl|rfl|rfl|rfl
 ·have e1:wayL s 0 (k:Int) (l:Int)=leafL s k:=by show leafL s (k:Int).toNat=_;rw[Int.toNat_natCast]
  rw[e1]
  have g:=leaf_grown hs hes hk
  exact⟨g,leaf_faceB hs hes h hk g.perm,by rw[leafL_length];omega⟩
 ·have e1:wayL s 1 (k:Int) (l:Int)=chordL s k l:=by show chordL s (k:Int).toNat (l:Int).toNat=_;rw[Int.toNat_natCast,Int.toNat_natCast]
  have h3:nameI (phiL s) (atI s (k:Int))=nameI (phiL s) (atI s (l:Int)):=of_decide_eq_true hb
  rw[atI_in hk,atI_in hl,nameI_in (by rw[phiL_length];exact hs.lt hk),nameI_in (by rw[phiL_length];exact hs.lt hl)] at h3
  rw[e1]
  have g:=chord_grown hs hes hk hl h3
  exact⟨g,chord_faceB hs hes h hk hl h3 g.perm,by rw[chord_length];omega⟩
 ·have e1:wayL s 2 (k:Int) (l:Int)=splitL s k:=by show splitL s (k:Int).toNat=_;rw[Int.toNat_natCast]
  rw[e1]
  have g:=split_grown hs hes rfl hk
  exact⟨g,split_faceB hs hes h hk g.perm,by rw[splitL_length];omega⟩
 ·have e1:wayL s 3 (k:Int) (l:Int)=starC s (orbitL (phiL s) k):=by show starL s (k:Int).toNat=_;rw[Int.toNat_natCast,starL_eq hs hes hk]
  rw[e1]
  have g:=star_grown hs hes hk rfl
  have hb':=star_faceB hs hes hF h hk
  have:=h k hk
  exact⟨g,fun x hx=>Nat.le_trans (hb' x hx) (by omega),by rw[starC_length];omega⟩
 ·have e1:wayL s 4 (k:Int) (l:Int)=flipL s k:=by show flipL s (k:Int).toNat=_;rw[Int.toNat_natCast]
  have hb2:flipB s k=true:=by
   have:flipB s (k:Int).toNat=true:=hb
   rwa [Int.toNat_natCast] at this
  obtain⟨m,pd,pa,pm,pb,hf⟩:=flipB_D hs hes hk hb2
  rw[e1]
  have hb':=flip_faceB hs hes hF h hf
  exact⟨hf.grown hs hes,fun x hx=>Nat.le_trans (hb' x hx) (by omega),by rw[flipL_length];omega⟩
theorem way_yes {s:List Nat} {W k l:Nat} (hW:W<5) (hk:k<s.length) (hl:l<s.length):wayR s.length W (k:Int) (l:Int)=true:=by
 have h1:=inR_true hk
 have h2:=inR_true hl
 rcases (by omega:W=0∨W=1∨W=2∨W=3∨W=4) with rfl|rfl|rfl|rfl|rfl
 ·exact h1
 ·show (inR s.length (k:Int) && inR s.length (l:Int))=true;rw[h1,h2];rfl
 ·exact h1
 ·exact h1
 ·exact h1
theorem way_no {s:List Nat} {W:Nat} {k l:Int} (hW:W<5) (hb:wayB s W k l=false):W=1∨W=4:=by
 rcases (by omega:W=0∨W=1∨W=2∨W=3∨W=4) with rfl|rfl|rfl|rfl|rfl
 ·cases hb
 ·exact Or.inl rfl
 ·cases hb
 ·cases hb
 ·exact Or.inr rfl
set_option maxRecDepth 100000 in
set_option maxHeartbeats 20000000 in
theorem growKeeps_walk (w:World) (kd n root:Nat) (hkd:kd≤255) (hn:n≤255) (hr:root≤255) (v:Value) (bs:List Nat) (hv:FreeB noReg w v bs) (vw:Value) (ws:List (Nat × Nat × Nat)) (hw:FreeA noReg w vw ws):
  Calls Try.prog 4 #[.int .u8 (kd:Int),.int .u8 (n:Int),v,.int .u8 (root:Int),vw] w (RetTrue noReg w):=by
 have HA:=Lib.hid (awake23_any noReg w (Inv.noReg w))
 have HMd:=Lib.hid (fun R' w' (h:Ev noReg w R' w')=>madeG_any R' w' h.inv kd n hkd hn v bs (hv.ev h) root hr)
 have HWs:=Lib.hid hw
 obtain⟨a0,c0,rfl,_,_⟩:=hv
 obtain⟨aw,cw,rfl,hwl,_⟩:=hw
 go_enter Try.func4,Try.ntmps4
 go_wp2_with fail
 refine HA.out.mono ?_
 rintro e w1 ⟨rfl,R1,he1⟩
 have HE1:=Lib.hid he1
 have HMd:=Lib.hid (HMd.out _ _ he1)
 clear he1
 go_wp2_with fail
 refine HMd.out.mono ?_
 rintro e w2 ⟨p,s,rt,ln,a,c,R2,rfl,he2,hp,hfr,hS,hok,hsl,hln,_⟩
 as_aux_lemma=>
  unfold refV
  obtain⟨lone,rfl⟩:∃ l:Nat,ln=(l:Int):=⟨ln.toNat,by have:=hok.2.2.1;omega⟩
  obtain⟨N,hN⟩:∃ N,s.length=N:=⟨_,rfl⟩
  rw[hN] at hsl hfr ⊢
  have HN:=Lib.hid hN
  have HE2:=Lib.hid (HE1.out.trans he2)
  have HP:=Lib.hid hp
  have HS:=Lib.hid hS
  have HOk:=Lib.hid hok
  have hea:=HE2.out.alloc (.cells #[.slice a N c,.int .i64 rt,.int .i64 (lone:Int)] 27)
  have hbx:=heap_alloc_new w2 (.cells #[.slice a N c,.int .i64 rt,.int .i64 (lone:Int)] 27)
  have hnx:R2 w2.heap.size=none:=HE2.out.inv.none_of_ge (Nat.le_refl _)
  have hfa:=hfr.ev ((Ev.refl he2.inv).alloc (.cells #[.slice a N c,.int .i64 rt,.int .i64 (lone:Int)] 27))
  go_upto_region 4 with fail
  obtain⟨wa,hwa⟩:∃ x,w2.alloc (.cells #[.slice a N c,.int .i64 rt,.int .i64 (lone:Int)] 27)=x:=⟨_,rfl⟩
  obtain⟨b,hb⟩:∃ x,w2.heap.size=x:=⟨_,rfl⟩
  rw[hwa] at hea hbx hfa
  rw[hb] at hbx hnx
  try rw[hwa]
  try rw[hb]
  have HEa:=Lib.hid hea
  have HX:=Lib.hid (fun R' w' (h:Ev R2 wa R' w')=>(by
   obtain⟨y0,y1,y2,_⟩:=boxC_cells (h.boxC3 hbx hnx).1
   exact⟨y0,y1,y2⟩:(fun w':World=>w'.cell? ⟨b,0,none⟩=some (.slice a N c)∧w'.cell? ⟨b,1,none⟩=some (.int .i64 rt)∧w'.cell? ⟨b,2,none⟩=some (.int .i64 (lone:Int))) w'))
  have HGn:=Lib.hid (fun w' (h:Ev R2 wa R2 w')=>r8genus_any R2 w' h.inv (.slice a N c) s rt lone (hfa.ev h) HS.out (by rw[HN.out];omega) HOk.out.1 (by omega))
  have HPt:=Lib.hid (fun w' (h:Ev R2 wa R2 w')=>r8parts_any R2 w' h.inv (.slice a N c) s rt lone (hfa.ev h) HS.out (by rw[HN.out];omega) HOk.out.1 (by omega))
  unfold refV at HGn HPt
  have HD:=Lib.hid ((Ev.refl HEa.out.inv).drew)
  obtain⟨G,hG⟩:∃ G,genusL s=G:=⟨_,rfl⟩
  obtain⟨P,hP⟩:∃ P,partsN s+lone=P:=⟨_,rfl⟩
  rw[hG] at HGn
  rw[hP] at HPt
  have HGe:=Lib.hid hG
  have HPe:=Lib.hid hP
  clear he2 hp hfr hS hok HMd HA hN hea hbx hnx hfa hwa hb hG hP
  as_aux_lemma=>
   refine wp_region_held_drew (S:=(fun w':World=>w'.cell? ⟨b,0,none⟩=some (.slice a N c)∧w'.cell? ⟨b,1,none⟩=some (.int .i64 rt)∧w'.cell? ⟨b,2,none⟩=some (.int .i64 (lone:Int)))) (by kernel_rfl) (HX.out _ _ HD.out) (fun hHeld=>?_)
   refine tk 0 (v:=?fka_0) ?gka_0 ?_
   case gka_0=>(intro w' ⟨s0,s1,s2⟩;go_simp;try with_reducible rfl)
   try simp only[Act.put,rd]
   refine tk 2 (v:=?fka_2) ?gka_2 ?_
   case gka_2=>(intro w' ⟨s0,s1,s2⟩;go_simp;try with_reducible rfl)
   try simp only[Act.put,rd]
   refine nx 1 fun K hK=>?_
   go_simp
   refine (HGn.out _ HD.out).mono ?_
   rintro z w3 ⟨rfl,he3⟩
   have HE3:=Lib.hid (HD.out.trans he3)
   clear he3
   go_simp
   refine hK.out _ _ (HX.out _ _ HE3.out) (fun hHeld2=>?_)
   clear hHeld
   refine nx 3 fun K hK=>?_
   go_simp
   refine (HPt.out _ HE3.out).mono ?_
   rintro z w4 ⟨v4,rfl,he4,a4,c4,rfl,ho4⟩
   have HE4:=Lib.hid (HE3.out.trans he4)
   clear he4 ho4
   go_simp
   refine hK.out _ _ (HX.out _ _ HE4.out) (fun hHeld3=>?_)
   clear hHeld2
   refine tk 4 (v:=?fka_4) ?gka_4 ?_
   case gka_4=>(intro w' ⟨s0,s1,s2⟩;go_simp;try with_reducible rfl)
   try simp only[Act.put,rd]
   refine tk 5 (v:=?fka_5) ?gka_5 ?_
   case gka_5=>(intro w' ⟨s0,s1,s2⟩;go_simp;try with_reducible rfl)
   try simp only[Act.put,rd]
   refine tk 6 (v:=?fka_6) ?gka_6 ?_
   case gka_6=>(intro w' ⟨s0,s1,s2⟩;go_simp;try with_reducible rfl)
   try simp only[Act.put,rd]
   refine wpAnyH_done (by kernel_rfl) ?_ _
   clear hHeld3 HGn HPt
   have HE5:=Lib.hid (HEa.out.trans HE4.out)
   have HP5:=Lib.hid (HE4.out.map HP.out)
   clear HE3 HE4 HD HX HEa
   have HFb:=Lib.hid (show FaceB s 60 from fun x hx=>Nat.le_trans (faceB_all HS.out HOk.out.1 x hx) (by rw[HN.out];exact hsl))
   as_aux_lemma=>
    go_wp2_with fail
    go_loopg [11,42] ws.length (fun g v11 v42 wr=>∃ (i:Nat) (Rr:Reg) (T:List Nat),i≤ws.length∧ws.length-i≤g∧i≤8∧v42=.int .i64 (i:Int)∧MapAt Rr v11 T rt (lone:Int)∧Ev noReg w Rr wr∧FaceB T (60+2*i)∧T.length≤60+154*i∧genusL T=G∧partsN T+lone=P)
    case atStart=>exact⟨0,R2,s,Nat.zero_le _,by omega,by omega,rfl,HP5.out,HE5.out,HFb.out,by rw[HN.out];omega,HGe.out,HPe.out⟩
    case round=>
     obtain⟨i,Rr,T,hin,hg,hi8,rfl,hm,hev,hfb,htl,htg,htp⟩:=hrel
     as_aux_lemma=>
      have HEr:=Lib.hid hev
      have HMr:=Lib.hid hm
      have HFr:=Lib.hid hfb
      have HTg:=Lib.hid htg
      have HTp:=Lib.hid htp
      obtain⟨n1,hn1⟩:∃ n1,T.length=n1:=⟨_,rfl⟩
      rw[hn1] at htl
      have HTl:=Lib.hid htl
      have HN1:=Lib.hid hn1
      clear hev hm hfb htg htp hn1 htl HP5 HE5 HFb
      by_cases hi:i<ws.length
      ·obtain⟨bW,oW,e,hbW,k0,k1,k2,l0,l1,l2⟩:=(HWs.out.ev HEr.out).cells i hi
       cases e
       obtain⟨y0,hy0⟩:∃ y,(at3 ws i).1=y:=⟨_,rfl⟩
       obtain⟨y1,hy1⟩:∃ y,(at3 ws i).2.1=y:=⟨_,rfl⟩
       obtain⟨y2,hy2⟩:∃ y,(at3 ws i).2.2=y:=⟨_,rfl⟩
       rw[hy0] at k0 l0
       rw[hy1] at k1 l1
       rw[hy2] at k2 l2
       rw[Nat.mul_comm 3 i] at k0 k1 k2
       clear hy0 hy1 hy2
       go_upto_region 8 with fail
       obtain⟨wb,hwb⟩:∃ x,wr.alloc (.cells #[.int .u8 (y0:Int),.int .u8 (y1:Int),.int .u8 (y2:Int)] 43)=x:=⟨_,rfl⟩
       obtain⟨ba,hba⟩:∃ x,wr.heap.size=x:=⟨_,rfl⟩
       have heb:=HEr.out.alloc (.cells #[.int .u8 (y0:Int),.int .u8 (y1:Int),.int .u8 (y2:Int)] 43)
       have heb2:=(Ev.refl HEr.out.inv).alloc (.cells #[.int .u8 (y0:Int),.int .u8 (y1:Int),.int .u8 (y2:Int)] 43)
       have hbx:=heap_alloc_new wr (.cells #[.int .u8 (y0:Int),.int .u8 (y1:Int),.int .u8 (y2:Int)] 43)
       have hnx:Rr wr.heap.size=none:=HEr.out.inv.none_of_ge (Nat.le_refl _)
       rw[hwb] at heb heb2 hbx
       try rw[hwb]
       rw[hba] at hbx hnx
       try rw[hba]
       have HEb:=Lib.hid heb
       have HMb:=Lib.hid (heb2.map HMr.out)
       have HBx:=Lib.hid (fun R' w' (h:Ev Rr wb R' w')=>(by
        obtain⟨c0,c1,c2,_⟩:=boxC_cells (h.boxC3 hbx hnx).1
        exact⟨c0,c1,c2⟩:w'.cell? ⟨ba,0,none⟩=some (.int .u8 (y0:Int))∧w'.cell? ⟨ba,1,none⟩=some (.int .u8 (y1:Int))∧w'.cell? ⟨ba,2,none⟩=some (.int .u8 (y2:Int))))
       have HDt:=Lib.hid (darts_any Rr wb HEb.out.inv _ T rt (lone:Int) HMb.out)
       have HDd:=Lib.hid (darts_any Rr wb.drew HEb.out.inv.drew _ T rt (lone:Int) HMb.out)
       rw[HN1.out] at HDt HDd
       clear hwb hba heb heb2 hbx hnx k0 k1 k2
       by_cases h8:i=8
       ·have h8b:(8:Int)≤(i:Int):=by omega
        as_aux_lemma=>
         have HGz:=Lib.hid (egenus_any Rr wb HEb.out.inv _ T rt lone HMb.out)
         rw[HTg.out] at HGz
         go_wp2_with fail
         refine HGz.out.mono ?_
         rintro z w6 ⟨rfl,R6,he6⟩
         have HPz:=Lib.hid (eparts_any R6 w6 he6.inv _ T rt lone (he6.map HMb.out))
         rw[HTp.out] at HPz
         have HE6:=Lib.hid (HEb.out.trans he6)
         clear he6 HGz
         go_wp2_with fail
         refine HPz.out.mono ?_
         rintro z w7 ⟨v7,R7,rfl,he7,a7,c7,rfl,ho7⟩
         have HE7:=Lib.hid (HE6.out.trans he7)
         clear he7 ho7 HPz
         go_wp2_with fail
         go_ret
         exact⟨by first|rfl|simp,R7,HE7.out⟩
       ·have h8b:¬ (8:Int)≤(i:Int):=by omega
        by_cases hz:n1=0
        ·have hzb:((n1:Int) == 0)=true:=beq_iff_eq.2 (by omega)
         as_aux_lemma=>
          clear hz
          go_wp2_with fail
          refine HDt.out.mono ?_
          rintro z w5 ⟨rfl,rfl⟩
          as_aux_lemma=>
           have HGz:=Lib.hid (egenus_any Rr wb HEb.out.inv _ T rt lone HMb.out)
           rw[HTg.out] at HGz
           go_wp2_with fail
           refine HGz.out.mono ?_
           rintro z w6 ⟨rfl,R6,he6⟩
           have HPz:=Lib.hid (eparts_any R6 w6 he6.inv _ T rt lone (he6.map HMb.out))
           rw[HTp.out] at HPz
           have HE6:=Lib.hid (HEb.out.trans he6)
           clear he6 HGz
           go_wp2_with fail
           refine HPz.out.mono ?_
           rintro z w7 ⟨v7,R7,rfl,he7,a7,c7,rfl,ho7⟩
           have HE7:=Lib.hid (HE6.out.trans he7)
           clear he7 ho7 HPz
           go_wp2_with fail
           go_ret
           exact⟨by first|rfl|simp,R7,HE7.out⟩
        ·have hzb:((n1:Int) == 0)=false:=beq_eq_false_iff_ne.2 (by omega)
         have hnp:0<n1:=by omega
         as_aux_lemma=>
          go_wp2_with fail
          refine HDt.out.mono ?_
          rintro z w5 ⟨rfl,rfl⟩
          obtain⟨k,hk⟩:∃ k,y1 % n1=k:=⟨_,rfl⟩
          have hkN:k<n1:=by rw[←hk];exact Nat.mod_lt _ hnp
          have hv0:IntKind.i64.wrap (y1:Int)=(y1:Int):=IntWalk.i64_in _ (by omega)
          have hr1:(y1:Int).tmod (n1:Int)=(k:Int):=by rw[←hk];rfl
          have hr2:(y1:Int) % (n1:Int)=(k:Int):=by rw[←hk];rfl
          obtain⟨l,hl⟩:∃ k,y2 % n1=k:=⟨_,rfl⟩
          have hlN:l<n1:=by rw[←hl];exact Nat.mod_lt _ hnp
          have hv1:IntKind.i64.wrap (y2:Int)=(y2:Int):=IntWalk.i64_in _ (by omega)
          have hr3:(y2:Int).tmod (n1:Int)=(l:Int):=by rw[←hl];rfl
          have hr4:(y2:Int) % (n1:Int)=(l:Int):=by rw[←hl];rfl
          obtain⟨W,hW⟩:∃ k,y0 % 5=k:=⟨_,rfl⟩
          have hWl:W<5:=by rw[←hW];exact Nat.mod_lt _ (by omega)
          have hr5:(y0:Int).tmod 5=(W:Int):=by rw[←hW];rfl
          have hr6:(y0:Int) % 5=(W:Int):=by rw[←hW];rfl
          have hv2:IntKind.i64.wrap (W:Int)=(W:Int):=IntWalk.i64_in _ (by omega)
          have hnz:¬ (n1:Int)=0:=by omega
          have hnz':¬ n1=0:=by omega
          have HK:=Lib.hid hkN
          have HL:=Lib.hid hlN
          have HW:=Lib.hid hWl
          have HI8:=Lib.hid (show i<8 by omega)
          have HId:=Lib.hid (Ev.refl HEb.out.inv).drew
          clear hk hkN hl hlN hW hWl hnp hz h8
          go_wp2_with fail
          as_aux_lemma=>
           refine wp_region_held_drew (S:=(fun w':World=>w'.cell? ⟨ba,0,none⟩=some (.int .u8 (y0:Int))∧w'.cell? ⟨ba,1,none⟩=some (.int .u8 (y1:Int))∧w'.cell? ⟨ba,2,none⟩=some (.int .u8 (y2:Int)))) (by kernel_rfl) (HBx.out _ _ HId.out) (fun hHeld=>?_)
           refine tk 0 (v:=?fkb_0) ?gkb_0 ?_
           case gkb_0=>(intro w' ⟨s0,s1,s2⟩;go_simp;try with_reducible rfl)
           try simp only[Act.put,rd]
           refine tk 1 (v:=?fkb_1) ?gkb_1 ?_
           case gkb_1=>(intro w' ⟨s0,s1,s2⟩;go_simp;try with_reducible rfl)
           try simp only[Act.put,rd]
           refine tk 2 (v:=?fkb_2) ?gkb_2 ?_
           case gkb_2=>(intro w' ⟨s0,s1,s2⟩;go_simp;try with_reducible rfl)
           try simp only[Act.put,rd]
           refine tk 3 (v:=?fkb_3) ?gkb_3 ?_
           case gkb_3=>(intro w' ⟨s0,s1,s2⟩;go_simp;try with_reducible rfl)
           try simp only[Act.put,rd]
           refine nx 4 fun K hK=>?_
           go_simp
           refine HDd.out.mono ?_
           rintro z w6 ⟨rfl,rfl⟩
           go_simp
           refine hK.out _ _ (HBx.out _ _ HId.out) (fun hHeld2=>?_)
           clear hHeld
           refine tk 5 (v:=(.int .i64 (k:Int))) ?gkb_5 ?_
           case gkb_5=>(intro w' ⟨s0,s1,s2⟩;go_simp;try with_reducible rfl)
           try simp only[Act.put,rd]
           refine tk 6 (v:=?fkb_6) ?gkb_6 ?_
           case gkb_6=>(intro w' ⟨s0,s1,s2⟩;go_simp;try with_reducible rfl)
           try simp only[Act.put,rd]
           refine wpAnyH_done (by kernel_rfl) ?_ _
           clear hHeld2 hr1 hr2
           as_aux_lemma=>
            obtain⟨wd,hwd⟩:∃ x,wb.drew=x:=⟨_,rfl⟩
            have heb:=HEb.out.drew
            have hid:=HId.out
            rw[hwd] at heb hid
            try rw[hwd]
            have HEd:=Lib.hid heb
            have HId:=Lib.hid hid
            have HId2:=Lib.hid hid.drew
            have HDe:=Lib.hid (darts_any Rr wd.drew heb.inv.drew _ T rt (lone:Int) HMb.out)
            rw[HN1.out] at HDe
            obtain⟨hTp,hTok⟩:=HMb.out.ok heb.inv
            have hyes:=way_yes (s:=T) HW.out (k:=k) (l:=l) (by rw[HN1.out];exact HK.out) (by rw[HN1.out];exact HL.out)
            have hdo:=do_any Rr wd.drew heb.inv.drew _ T rt (lone:Int) HMb.out W HW.out (k:Int) (l:Int)
            rw[hyes] at hdo
            have HDo:=Lib.hid hdo
            have HWy:=Lib.hid (fun hb:wayB T W (k:Int) (l:Int)=true=>way_err hTp hTok (by have:=HTl.out;have:=HN1.out;have:=HI8.out;omega) HW.out hyes hb)
            have HTq:=Lib.hid hTp
            have HTo:=Lib.hid hTok
            obtain⟨z0,_,_⟩:=HBx.out _ _ HId.out
            clear hwd heb hid hTp hTok hyes hdo
            go_wp2_with fail
            as_aux_lemma=>
             refine wp_region_held_drew (S:=(fun w':World=>w'.cell? ⟨ba,0,none⟩=some (.int .u8 (y0:Int))∧w'.cell? ⟨ba,1,none⟩=some (.int .u8 (y1:Int))∧w'.cell? ⟨ba,2,none⟩=some (.int .u8 (y2:Int)))) (by kernel_rfl) (HBx.out _ _ HId2.out) (fun hHeld=>?_)
             refine tk 0 (v:=?fkc_0) ?gkc_0 ?_
             case gkc_0=>(intro w' ⟨s0,s1,s2⟩;go_simp;try with_reducible rfl)
             try simp only[Act.put,rd]
             refine tk 1 (v:=?fkc_1) ?gkc_1 ?_
             case gkc_1=>(intro w' ⟨s0,s1,s2⟩;go_simp;try with_reducible rfl)
             try simp only[Act.put,rd]
             refine tk 2 (v:=?fkc_2) ?gkc_2 ?_
             case gkc_2=>(intro w' ⟨s0,s1,s2⟩;go_simp;try with_reducible rfl)
             try simp only[Act.put,rd]
             refine tk 3 (v:=?fkc_3) ?gkc_3 ?_
             case gkc_3=>(intro w' ⟨s0,s1,s2⟩;go_simp;try with_reducible rfl)
             try simp only[Act.put,rd]
             refine tk 4 (v:=?fkc_4) ?gkc_4 ?_
             case gkc_4=>(intro w' ⟨s0,s1,s2⟩;go_simp;try with_reducible rfl)
             try simp only[Act.put,rd]
             refine tk 5 (v:=?fkc_5) ?gkc_5 ?_
             case gkc_5=>(intro w' ⟨s0,s1,s2⟩;go_simp;try with_reducible rfl)
             try simp only[Act.put,rd]
             refine tk 6 (v:=?fkc_6) ?gkc_6 ?_
             case gkc_6=>(intro w' ⟨s0,s1,s2⟩;go_simp;try with_reducible rfl)
             try simp only[Act.put,rd]
             refine nx 7 fun K hK=>?_
             go_simp
             refine HDe.out.mono ?_
             rintro z w6 ⟨rfl,rfl⟩
             go_simp
             refine hK.out _ _ (HBx.out _ _ HId2.out) (fun hHeld2=>?_)
             clear hHeld
             refine tk 8 (v:=(.int .i64 (l:Int))) ?gkc_8 ?_
             case gkc_8=>(intro w' ⟨s0,s1,s2⟩;go_simp;try with_reducible rfl)
             try simp only[Act.put,rd]
             refine nx 9 fun K hK=>?_
             go_simp
             refine HDo.out.mono ?_
             rintro z w6 hk6
             rcases hk6.in_ HWy.out with ⟨hb,rfl,R6,he6⟩|⟨hb,q,R6,rfl,he6,hq⟩
             ·have HI6:=Lib.hid (HId2.out.trans he6)
              have HE6:=Lib.hid (HEd.out.drew.trans he6)
              have HM6:=Lib.hid ((he6.map HMb.out))
              have hno:=way_no HW.out hb
              clear hb hk6 he6
              go_simp
              refine hK.out _ _ (HBx.out _ _ HI6.out) (fun hHeld3=>?_)
              clear hHeld2
              refine tk 10 (v:=?fkd_10) ?gkd_10 ?_
              case gkd_10=>(intro w' ⟨s0,s1,s2⟩;go_simp;try with_reducible rfl)
              try simp only[Act.put,rd]
              refine tk 11 (v:=?fkd_11) ?gkd_11 ?_
              case gkd_11=>(intro w' ⟨s0,s1,s2⟩;go_simp;try with_reducible rfl)
              try simp only[Act.put,rd]
              refine tk 12 (v:=?fkd_12) ?gkd_12 ?_
              case gkd_12=>(intro w' ⟨s0,s1,s2⟩;go_simp;try with_reducible rfl)
              try simp only[Act.put,rd]
              refine tk 13 (v:=?fkd_13) ?gkd_13 ?_
              case gkd_13=>(intro w' ⟨s0,s1,s2⟩;go_simp;try with_reducible rfl)
              try simp only[Act.put,rd]
              refine tk 14 (v:=?fkd_14) ?gkd_14 ?_
              case gkd_14=>(intro w' ⟨s0,s1,s2⟩;go_simp;try with_reducible rfl)
              try simp only[Act.put,rd]
              refine wpAnyH_done (by kernel_rfl) ?_ _
              clear hHeld3
              as_aux_lemma=>
               by_cases hW1:W=1
               ·have hw1:((W:Int) != 1)=false:=bne_eq_false_iff_eq.2 (by omega)
                clear hno hW1
                go_wp2_with fail
                go_roundg (ws.length-(i+1))
                case measure=>omega
                case rel=>
                 have h1:=HTl.out
                 have h2:=HI8.out
                 have h3:=HN1.out
                 exact⟨i+1,R6,T,by omega,by omega,by omega,by go_num,HM6.out,HE6.out,fun x hx=>Nat.le_trans (HFr.out x hx) (by omega),by omega,HTg.out,HTp.out⟩
               ·have hw1:((W:Int) != 1)=true:=bne_iff_ne.2 (by omega)
                have hw2:((W:Int) != 4)=false:=bne_eq_false_iff_eq.2 (by omega)
                clear hno hW1
                go_wp2_with fail
                go_roundg (ws.length-(i+1))
                case measure=>omega
                case rel=>
                 have h1:=HTl.out
                 have h2:=HI8.out
                 have h3:=HN1.out
                 exact⟨i+1,R6,T,by omega,by omega,by omega,by go_num,HM6.out,HE6.out,fun x hx=>Nat.le_trans (HFr.out x hx) (by omega),by omega,HTg.out,HTp.out⟩
             ·have HI6:=Lib.hid (HId2.out.trans he6)
              have HE6:=Lib.hid (HEd.out.drew.trans he6)
              have HM6:=Lib.hid ((he6.map HMb.out))
              have HQ:=Lib.hid hq
              have HB:=Lib.hid hb
              clear hb hk6 he6 hq
              go_simp
              refine hK.out _ _ (HBx.out _ _ HI6.out) (fun hHeld3=>?_)
              clear hHeld2
              refine tk 10 (v:=?fke_10) ?gke_10 ?_
              case gke_10=>(intro w' ⟨s0,s1,s2⟩;go_simp;try with_reducible rfl)
              try simp only[Act.put,rd]
              refine tk 11 (v:=?fke_11) ?gke_11 ?_
              case gke_11=>(intro w' ⟨s0,s1,s2⟩;go_simp;try with_reducible rfl)
              try simp only[Act.put,rd]
              refine tk 12 (v:=?fke_12) ?gke_12 ?_
              case gke_12=>(intro w' ⟨s0,s1,s2⟩;go_simp;try with_reducible rfl)
              try simp only[Act.put,rd]
              refine tk 13 (v:=?fke_13) ?gke_13 ?_
              case gke_13=>(intro w' ⟨s0,s1,s2⟩;go_simp;try with_reducible rfl)
              try simp only[Act.put,rd]
              refine tk 14 (v:=?fke_14) ?gke_14 ?_
              case gke_14=>(intro w' ⟨s0,s1,s2⟩;go_simp;try with_reducible rfl)
              try simp only[Act.put,rd]
              refine wpAnyH_done (by kernel_rfl) ?_ _
              clear hHeld3
              as_aux_lemma=>
               obtain⟨hg,hfx,hlx⟩:=way_keeps HTq.out HTo.out.1 HW.out (k:=k) (l:=l) (by rw[HN1.out];exact HK.out) (by rw[HN1.out];exact HL.out) HB.out (F:=60+2*i) (by omega) HFr.out
               have hgg:=hg.genus HTq.out HTo.out.1
               obtain⟨X,hX⟩:∃ X,wayL T W (k:Int) (l:Int)=X:=⟨_,rfl⟩
               have hQ:=HQ.out
               rw[hX] at hg hfx hlx hgg hQ
               obtain⟨K,hKe⟩:∃ K,(orbitL (phiL T) k).length=K:=⟨_,rfl⟩
               have hKp:1≤K:=by rw[←hKe];unfold orbitL;simp
               have hKm:K≤100:=by
                have h1:=HFr.out k (by rw[HN1.out];exact HK.out)
                have h2:=HI8.out
                omega
               obtain⟨K1,hK1⟩:∃ K1,K-1=K1:=⟨_,rfl⟩
               have hBd:=border_any R6 w6 HI6.out.inv u11 T rt (lone:Int) HM6.out (k:Int)
               rw[orbI_in (by rw[phiL_length,HN1.out];exact HK.out)] at hBd
               have HBd:=Lib.hid hBd
               have HQ6:=Lib.hid hQ
               have HVo:=Lib.hid (fun R' w' (h:Ev R6 w6 R' w')=>vertices_any R' w' h.inv q X rt (lone:Int) (h.map HQ6.out))
               have HVm:=Lib.hid (fun R' w' (h:Ev R6 w6 R' w')=>vertices_any R' w' h.inv u11 T rt (lone:Int) (h.map HM6.out))
               have HBo:=Lib.hid (fun R' w' (h:Ev R6 w6 R' w')=>borders_any R' w' h.inv q X rt (lone:Int) (h.map HQ6.out))
               have HBm:=Lib.hid (fun R' w' (h:Ev R6 w6 R' w')=>borders_any R' w' h.inv u11 T rt (lone:Int) (h.map HM6.out))
               have HEo:=Lib.hid (fun R' w' (h:Ev R6 w6 R' w')=>edges_any R' w' h.inv q X rt (lone:Int) (h.map HQ6.out))
               have HEm:=Lib.hid (fun R' w' (h:Ev R6 w6 R' w')=>edges_any R' w' h.inv u11 T rt (lone:Int) (h.map HM6.out))
               have hvs:=hg.vs
               have hfs:=hg.fs
               have hes:=hg.es
               obtain⟨A,hA⟩:∃ A:Int,((sizesL X).length:Int)+lone=A:=⟨_,rfl⟩
               obtain⟨B1,hB1⟩:∃ A:Int,((sizesL T).length:Int)+lone=A:=⟨_,rfl⟩
               obtain⟨C,hC⟩:∃ A:Int,((sizesL (phiL X)).length:Int)=A:=⟨_,rfl⟩
               obtain⟨D,hD⟩:∃ A:Int,((sizesL (phiL T)).length:Int)=A:=⟨_,rfl⟩
               obtain⟨E1,hE1⟩:∃ A:Int,((X.length / 2:Nat):Int)=A:=⟨_,rfl⟩
               obtain⟨E2,hE2⟩:∃ A:Int,((T.length / 2:Nat):Int)=A:=⟨_,rfl⟩
               have hvs':A=B1+wvK W:=by omega
               rw[hA] at HVo
               rw[hB1] at HVm
               rw[hC] at HBo hfs
               rw[hD] at HBm hfs
               rw[hE1] at HEo hes
               rw[hE2] at HEm hes
               have hk1:IntKind.i64.wrap ((K:Int)-1)=(K1:Int):=by rw[show (K:Int)-1=(K1:Int) by omega];exact IntWalk.i64_in _ (by omega)
               have HX:=Lib.hid (show FaceB X (60+2*(i+1))∧X.length≤60+154*(i+1)∧genusL X=G∧partsN X+lone=P from
                ⟨fun x hx=>Nat.le_trans (hfx x hx) (by omega),by have h1:=HTl.out;have h2:=HN1.out;have h3:=HI8.out;omega,by rw[hgg];exact HTg.out,by rw[hg.parts];exact HTp.out⟩)
               have HKe:=Lib.hid hKe
               clear hA hB1 hC hD hE1 hE2 hvs hBd hQ hX hgg hfx hlx
               have hW5:=HW.out
               rcases (by omega:W=0∨W=1∨W=2∨W=3∨W=4) with rfl|rfl|rfl|rfl|rfl
               ·have hs1:IntKind.i64.wrap (A-B1)=1:=by
                 rw[show wvK 0=1 from rfl] at hvs'
                 rw[show A-B1=1 by omega];exact IntWalk.i64_in _ (by omega)
                have hf:wfK T 0 k=0:=rfl
                rw[hf] at hfs hes
                rw[show wvK 0=1 from rfl] at hes
                have hs2:IntKind.i64.wrap (C-D)=0:=by rw[show C-D=0 by omega];exact IntWalk.i64_in _ (by omega)
                have hs3:IntKind.i64.wrap (E1-E2)=1:=by rw[show E1-E2=1 by omega];exact IntWalk.i64_in _ (by omega)
                have hs4:IntKind.i64.wrap (1+0)=1:=by rw[show (1:Int)+0=1 by omega];exact IntWalk.i64_in _ (by omega)
                have hbt:=build_two
                have hbf:=build_five
                have hix:=fun w=>(index_five 1 0 0 1 1 0 1 (K1:Int) 0 0 w).1
                clear hf hfs hes hvs' hW5 hg
                as_aux_lemma=>
                 go_wp2_with fail
                 refine HBd.out.mono ?_
                 rintro z w7 ⟨v7,rfl,he7,ho7⟩
                 obtain⟨a7,c7,rfl,_⟩:=ho7.ints.open
                 rw[toI_length,HKe.out]
                 have HI7:=Lib.hid he7
                 clear he7 ho7
                 go_wp2_with fail
                 refine (HVo.out _ _ HI7.out).mono ?_
                 rintro z w8 ⟨rfl,R8,he8⟩
                 have HI8':=Lib.hid (HI7.out.trans he8)
                 clear he8
                 go_wp2_with fail
                 refine (HVm.out _ _ HI8'.out).mono ?_
                 rintro z w9 ⟨rfl,R9,he9⟩
                 have HI9:=Lib.hid (HI8'.out.trans he9)
                 clear he9
                 go_wp2_with fail
                 refine (HBo.out _ _ HI9.out).mono ?_
                 rintro z w10 ⟨rfl,R10,he10⟩
                 have HI10:=Lib.hid (HI9.out.trans he10)
                 clear he10
                 go_wp2_with fail
                 refine (HBm.out _ _ HI10.out).mono ?_
                 rintro z w11 ⟨rfl,R11,he11⟩
                 have HI11:=Lib.hid (HI10.out.trans he11)
                 clear he11
                 go_upto_region 17 with fail
                 go_cut [24] (fun s24 wx=>s24=.pointer (some ⟨w11.heap.size,0,none⟩)∧wx=w11.alloc (.cells #[.int .i64 1,.int .i64 0] 45))
                 case first=>
                  as_aux_lemma=>
                   refine wp_region_lit ?_
                   refine ls (w':=w11) (.agg #[.int .i64 1,.int .i64 0]) ?_ ?_
                   ·go_simp
                   try simp only[Act.put,rd]
                   refine ls (w':=w11) (.agg #[.int .i64 0,.int .i64 1]) ?_ ?_
                   ·go_simp
                   try simp only[Act.put,rd]
                   refine ls (w':=w11) (.agg #[.int .i64 1,.int .i64 0]) ?_ ?_
                   ·go_simp
                   try simp only[Act.put,rd]
                   refine ls (w':=w11) (.int .i64 (K:Int)) ?_ ?_
                   ·go_simp
                   try simp only[Act.put,rd]
                   refine ls (w':=w11) (.int .i64 (K1:Int)) ?_ ?_
                   ·go_simp
                   try simp only[Act.put,rd]
                   refine ls (w':=w11) (.agg #[.int .i64 1,.int .i64 (K1:Int)]) ?_ ?_
                   ·go_simp
                   try simp only[Act.put,rd]
                   refine ls (w':=w11) (.agg #[.int .i64 0,.int .i64 0]) ?_ ?_
                   ·go_simp
                   try simp only[Act.put,rd]
                   refine ls (w':=w11) (.agg #[.int .i64 1,.int .i64 0,.int .i64 0,.int .i64 1,.int .i64 1,.int .i64 0,.int .i64 1,.int .i64 (K1:Int),.int .i64 0,.int .i64 0]) ?_ ?_
                   ·refine ex_build (hbf 1 0 0 1 1 0 1 (K1:Int) 0 0 w11) ?_ rfl
                    kernel_rfl
                   try simp only[Act.put,rd]
                   refine ls (w':=w11) (.int .i64 0) ?_ ?_
                   ·go_simp
                   try simp only[Act.put,rd]
                   refine ls (w':=w11) (.agg #[.int .i64 1,.int .i64 0]) ?_ ?_
                   ·go_simp
                   try simp only[Act.put,rd]
                   refine ls (w':=w11.alloc (.cells #[.int .i64 0,.int .i64 0] 45)) (.pointer (some ⟨w11.heap.size,0,none⟩)) ?_ ?_
                   ·go_simp
                   try simp only[Act.put,rd]
                   refine lu (w11.alloc (.cells #[.int .i64 1,.int .i64 0] 45)) ?_ ?_
                   ·go_simp
                   try simp only[Act.put,rd]
                   refine wpList_nil ?_
                   go_wp2_with fail
                   go_meet
                   case rel=>exact⟨rfl,rfl⟩
                 case rest=>
                  obtain⟨rfl,rfl⟩:=hcut
                  have hw8:=heap_alloc_new w11 (.cells #[.int .i64 1,.int .i64 0] 45)
                  clear hbt hbf hix
                  go_wp2_with fail
                  refine (HEo.out _ _ (HI11.out.alloc _)).mono ?_
                  rintro z w12 ⟨rfl,rfl⟩
                  go_wp2_with fail
                  refine (HEm.out _ _ (HI11.out.alloc _)).mono ?_
                  rintro z w12 ⟨rfl,rfl⟩
                  go_wp2_with fail
                  go_roundg (ws.length-(i+1))
                  case measure=>omega
                  case rel=>
                   obtain⟨x1,x2,x3,x4⟩:=HX.out
                   have h2:=HI8.out
                   exact⟨i+1,R11,X,by omega,by omega,by omega,by go_num,HI11.out.map HQ6.out,(HE6.out.trans HI11.out).alloc _,x1,x2,x3,x4⟩
               ·have hs1:IntKind.i64.wrap (A-B1)=0:=by
                 rw[show wvK 1=0 from rfl] at hvs'
                 rw[show A-B1=0 by omega];exact IntWalk.i64_in _ (by omega)
                have hf:wfK T 1 k=1:=rfl
                rw[hf] at hfs hes
                rw[show wvK 1=0 from rfl] at hes
                have hs2:IntKind.i64.wrap (C-D)=1:=by rw[show C-D=1 by omega];exact IntWalk.i64_in _ (by omega)
                have hs3:IntKind.i64.wrap (E1-E2)=1:=by rw[show E1-E2=1 by omega];exact IntWalk.i64_in _ (by omega)
                have hs4:IntKind.i64.wrap (0+1)=1:=by rw[show (0:Int)+1=1 by omega];exact IntWalk.i64_in _ (by omega)
                have hbt:=build_two
                have hbf:=build_five
                have hix:=fun w=>(index_five 1 0 0 1 1 0 1 (K1:Int) 0 0 w).2.1
                clear hf hfs hes hvs' hW5 hg
                as_aux_lemma=>
                 go_wp2_with fail
                 refine HBd.out.mono ?_
                 rintro z w7 ⟨v7,rfl,he7,ho7⟩
                 obtain⟨a7,c7,rfl,_⟩:=ho7.ints.open
                 rw[toI_length,HKe.out]
                 have HI7:=Lib.hid he7
                 clear he7 ho7
                 go_wp2_with fail
                 refine (HVo.out _ _ HI7.out).mono ?_
                 rintro z w8 ⟨rfl,R8,he8⟩
                 have HI8':=Lib.hid (HI7.out.trans he8)
                 clear he8
                 go_wp2_with fail
                 refine (HVm.out _ _ HI8'.out).mono ?_
                 rintro z w9 ⟨rfl,R9,he9⟩
                 have HI9:=Lib.hid (HI8'.out.trans he9)
                 clear he9
                 go_wp2_with fail
                 refine (HBo.out _ _ HI9.out).mono ?_
                 rintro z w10 ⟨rfl,R10,he10⟩
                 have HI10:=Lib.hid (HI9.out.trans he10)
                 clear he10
                 go_wp2_with fail
                 refine (HBm.out _ _ HI10.out).mono ?_
                 rintro z w11 ⟨rfl,R11,he11⟩
                 have HI11:=Lib.hid (HI10.out.trans he11)
                 clear he11
                 go_upto_region 17 with fail
                 go_cut [24] (fun s24 wx=>s24=.pointer (some ⟨w11.heap.size,0,none⟩)∧wx=w11.alloc (.cells #[.int .i64 0,.int .i64 1] 45))
                 case first=>
                  as_aux_lemma=>
                   refine wp_region_lit ?_
                   refine ls (w':=w11) (.agg #[.int .i64 1,.int .i64 0]) ?_ ?_
                   ·go_simp
                   try simp only[Act.put,rd]
                   refine ls (w':=w11) (.agg #[.int .i64 0,.int .i64 1]) ?_ ?_
                   ·go_simp
                   try simp only[Act.put,rd]
                   refine ls (w':=w11) (.agg #[.int .i64 1,.int .i64 0]) ?_ ?_
                   ·go_simp
                   try simp only[Act.put,rd]
                   refine ls (w':=w11) (.int .i64 (K:Int)) ?_ ?_
                   ·go_simp
                   try simp only[Act.put,rd]
                   refine ls (w':=w11) (.int .i64 (K1:Int)) ?_ ?_
                   ·go_simp
                   try simp only[Act.put,rd]
                   refine ls (w':=w11) (.agg #[.int .i64 1,.int .i64 (K1:Int)]) ?_ ?_
                   ·go_simp
                   try simp only[Act.put,rd]
                   refine ls (w':=w11) (.agg #[.int .i64 0,.int .i64 0]) ?_ ?_
                   ·go_simp
                   try simp only[Act.put,rd]
                   refine ls (w':=w11) (.agg #[.int .i64 1,.int .i64 0,.int .i64 0,.int .i64 1,.int .i64 1,.int .i64 0,.int .i64 1,.int .i64 (K1:Int),.int .i64 0,.int .i64 0]) ?_ ?_
                   ·refine ex_build (hbf 1 0 0 1 1 0 1 (K1:Int) 0 0 w11) ?_ rfl
                    kernel_rfl
                   try simp only[Act.put,rd]
                   refine ls (w':=w11) (.int .i64 1) ?_ ?_
                   ·go_simp
                   try simp only[Act.put,rd]
                   refine ls (w':=w11) (.agg #[.int .i64 0,.int .i64 1]) ?_ ?_
                   ·go_simp
                   try simp only[Act.put,rd]
                   refine ls (w':=w11.alloc (.cells #[.int .i64 0,.int .i64 0] 45)) (.pointer (some ⟨w11.heap.size,0,none⟩)) ?_ ?_
                   ·go_simp
                   try simp only[Act.put,rd]
                   refine lu (w11.alloc (.cells #[.int .i64 0,.int .i64 1] 45)) ?_ ?_
                   ·go_simp
                   try simp only[Act.put,rd]
                   refine wpList_nil ?_
                   go_wp2_with fail
                   go_meet
                   case rel=>exact⟨rfl,rfl⟩
                 case rest=>
                  obtain⟨rfl,rfl⟩:=hcut
                  have hw8:=heap_alloc_new w11 (.cells #[.int .i64 0,.int .i64 1] 45)
                  clear hbt hbf hix
                  go_wp2_with fail
                  refine (HEo.out _ _ (HI11.out.alloc _)).mono ?_
                  rintro z w12 ⟨rfl,rfl⟩
                  go_wp2_with fail
                  refine (HEm.out _ _ (HI11.out.alloc _)).mono ?_
                  rintro z w12 ⟨rfl,rfl⟩
                  go_wp2_with fail
                  go_roundg (ws.length-(i+1))
                  case measure=>omega
                  case rel=>
                   obtain⟨x1,x2,x3,x4⟩:=HX.out
                   have h2:=HI8.out
                   exact⟨i+1,R11,X,by omega,by omega,by omega,by go_num,HI11.out.map HQ6.out,(HE6.out.trans HI11.out).alloc _,x1,x2,x3,x4⟩
               ·have hs1:IntKind.i64.wrap (A-B1)=1:=by
                 rw[show wvK 2=1 from rfl] at hvs'
                 rw[show A-B1=1 by omega];exact IntWalk.i64_in _ (by omega)
                have hf:wfK T 2 k=0:=rfl
                rw[hf] at hfs hes
                rw[show wvK 2=1 from rfl] at hes
                have hs2:IntKind.i64.wrap (C-D)=0:=by rw[show C-D=0 by omega];exact IntWalk.i64_in _ (by omega)
                have hs3:IntKind.i64.wrap (E1-E2)=1:=by rw[show E1-E2=1 by omega];exact IntWalk.i64_in _ (by omega)
                have hs4:IntKind.i64.wrap (1+0)=1:=by rw[show (1:Int)+0=1 by omega];exact IntWalk.i64_in _ (by omega)
                have hbt:=build_two
                have hbf:=build_five
                have hix:=fun w=>(index_five 1 0 0 1 1 0 1 (K1:Int) 0 0 w).2.2.1
                clear hf hfs hes hvs' hW5 hg
                as_aux_lemma=>
                 go_wp2_with fail
                 refine HBd.out.mono ?_
                 rintro z w7 ⟨v7,rfl,he7,ho7⟩
                 obtain⟨a7,c7,rfl,_⟩:=ho7.ints.open
                 rw[toI_length,HKe.out]
                 have HI7:=Lib.hid he7
                 clear he7 ho7
                 go_wp2_with fail
                 refine (HVo.out _ _ HI7.out).mono ?_
                 rintro z w8 ⟨rfl,R8,he8⟩
                 have HI8':=Lib.hid (HI7.out.trans he8)
                 clear he8
                 go_wp2_with fail
                 refine (HVm.out _ _ HI8'.out).mono ?_
                 rintro z w9 ⟨rfl,R9,he9⟩
                 have HI9:=Lib.hid (HI8'.out.trans he9)
                 clear he9
                 go_wp2_with fail
                 refine (HBo.out _ _ HI9.out).mono ?_
                 rintro z w10 ⟨rfl,R10,he10⟩
                 have HI10:=Lib.hid (HI9.out.trans he10)
                 clear he10
                 go_wp2_with fail
                 refine (HBm.out _ _ HI10.out).mono ?_
                 rintro z w11 ⟨rfl,R11,he11⟩
                 have HI11:=Lib.hid (HI10.out.trans he11)
                 clear he11
                 go_upto_region 17 with fail
                 go_cut [24] (fun s24 wx=>s24=.pointer (some ⟨w11.heap.size,0,none⟩)∧wx=w11.alloc (.cells #[.int .i64 1,.int .i64 0] 45))
                 case first=>
                  as_aux_lemma=>
                   refine wp_region_lit ?_
                   refine ls (w':=w11) (.agg #[.int .i64 1,.int .i64 0]) ?_ ?_
                   ·go_simp
                   try simp only[Act.put,rd]
                   refine ls (w':=w11) (.agg #[.int .i64 0,.int .i64 1]) ?_ ?_
                   ·go_simp
                   try simp only[Act.put,rd]
                   refine ls (w':=w11) (.agg #[.int .i64 1,.int .i64 0]) ?_ ?_
                   ·go_simp
                   try simp only[Act.put,rd]
                   refine ls (w':=w11) (.int .i64 (K:Int)) ?_ ?_
                   ·go_simp
                   try simp only[Act.put,rd]
                   refine ls (w':=w11) (.int .i64 (K1:Int)) ?_ ?_
                   ·go_simp
                   try simp only[Act.put,rd]
                   refine ls (w':=w11) (.agg #[.int .i64 1,.int .i64 (K1:Int)]) ?_ ?_
                   ·go_simp
                   try simp only[Act.put,rd]
                   refine ls (w':=w11) (.agg #[.int .i64 0,.int .i64 0]) ?_ ?_
                   ·go_simp
                   try simp only[Act.put,rd]
                   refine ls (w':=w11) (.agg #[.int .i64 1,.int .i64 0,.int .i64 0,.int .i64 1,.int .i64 1,.int .i64 0,.int .i64 1,.int .i64 (K1:Int),.int .i64 0,.int .i64 0]) ?_ ?_
                   ·refine ex_build (hbf 1 0 0 1 1 0 1 (K1:Int) 0 0 w11) ?_ rfl
                    kernel_rfl
                   try simp only[Act.put,rd]
                   refine ls (w':=w11) (.int .i64 2) ?_ ?_
                   ·go_simp
                   try simp only[Act.put,rd]
                   refine ls (w':=w11) (.agg #[.int .i64 1,.int .i64 0]) ?_ ?_
                   ·go_simp
                   try simp only[Act.put,rd]
                   refine ls (w':=w11.alloc (.cells #[.int .i64 0,.int .i64 0] 45)) (.pointer (some ⟨w11.heap.size,0,none⟩)) ?_ ?_
                   ·go_simp
                   try simp only[Act.put,rd]
                   refine lu (w11.alloc (.cells #[.int .i64 1,.int .i64 0] 45)) ?_ ?_
                   ·go_simp
                   try simp only[Act.put,rd]
                   refine wpList_nil ?_
                   go_wp2_with fail
                   go_meet
                   case rel=>exact⟨rfl,rfl⟩
                 case rest=>
                  obtain⟨rfl,rfl⟩:=hcut
                  have hw8:=heap_alloc_new w11 (.cells #[.int .i64 1,.int .i64 0] 45)
                  clear hbt hbf hix
                  go_wp2_with fail
                  refine (HEo.out _ _ (HI11.out.alloc _)).mono ?_
                  rintro z w12 ⟨rfl,rfl⟩
                  go_wp2_with fail
                  refine (HEm.out _ _ (HI11.out.alloc _)).mono ?_
                  rintro z w12 ⟨rfl,rfl⟩
                  go_wp2_with fail
                  go_roundg (ws.length-(i+1))
                  case measure=>omega
                  case rel=>
                   obtain⟨x1,x2,x3,x4⟩:=HX.out
                   have h2:=HI8.out
                   exact⟨i+1,R11,X,by omega,by omega,by omega,by go_num,HI11.out.map HQ6.out,(HE6.out.trans HI11.out).alloc _,x1,x2,x3,x4⟩
               ·have hs1:IntKind.i64.wrap (A-B1)=1:=by
                 rw[show wvK 3=1 from rfl] at hvs'
                 rw[show A-B1=1 by omega];exact IntWalk.i64_in _ (by omega)
                have hf:wfK T 3 k=(K:Int)-1:=by show ((orbitL (phiL T) k).length:Int)-1=_;rw[hKe]
                rw[hf] at hfs hes
                rw[show wvK 3=1 from rfl] at hes
                have hs2:IntKind.i64.wrap (C-D)=(K1:Int):=by rw[show C-D=(K1:Int) by omega];exact IntWalk.i64_in _ (by omega)
                have hs3:IntKind.i64.wrap (E1-E2)=(K:Int):=by rw[show E1-E2=(K:Int) by omega];exact IntWalk.i64_in _ (by omega)
                have hs4:IntKind.i64.wrap (1+(K1:Int))=(K:Int):=by rw[show (1:Int)+(K1:Int)=(K:Int) by omega];exact IntWalk.i64_in _ (by omega)
                have hbt:=build_two
                have hbf:=build_five
                have hix:=fun w=>(index_five 1 0 0 1 1 0 1 (K1:Int) 0 0 w).2.2.2.1
                clear hf hfs hes hvs' hW5 hg
                as_aux_lemma=>
                 go_wp2_with fail
                 refine HBd.out.mono ?_
                 rintro z w7 ⟨v7,rfl,he7,ho7⟩
                 obtain⟨a7,c7,rfl,_⟩:=ho7.ints.open
                 rw[toI_length,HKe.out]
                 have HI7:=Lib.hid he7
                 clear he7 ho7
                 go_wp2_with fail
                 refine (HVo.out _ _ HI7.out).mono ?_
                 rintro z w8 ⟨rfl,R8,he8⟩
                 have HI8':=Lib.hid (HI7.out.trans he8)
                 clear he8
                 go_wp2_with fail
                 refine (HVm.out _ _ HI8'.out).mono ?_
                 rintro z w9 ⟨rfl,R9,he9⟩
                 have HI9:=Lib.hid (HI8'.out.trans he9)
                 clear he9
                 go_wp2_with fail
                 refine (HBo.out _ _ HI9.out).mono ?_
                 rintro z w10 ⟨rfl,R10,he10⟩
                 have HI10:=Lib.hid (HI9.out.trans he10)
                 clear he10
                 go_wp2_with fail
                 refine (HBm.out _ _ HI10.out).mono ?_
                 rintro z w11 ⟨rfl,R11,he11⟩
                 have HI11:=Lib.hid (HI10.out.trans he11)
                 clear he11
                 go_upto_region 17 with fail
                 go_cut [24] (fun s24 wx=>s24=.pointer (some ⟨w11.heap.size,0,none⟩)∧wx=w11.alloc (.cells #[.int .i64 1,.int .i64 (K1:Int)] 45))
                 case first=>
                  as_aux_lemma=>
                   refine wp_region_lit ?_
                   refine ls (w':=w11) (.agg #[.int .i64 1,.int .i64 0]) ?_ ?_
                   ·go_simp
                   try simp only[Act.put,rd]
                   refine ls (w':=w11) (.agg #[.int .i64 0,.int .i64 1]) ?_ ?_
                   ·go_simp
                   try simp only[Act.put,rd]
                   refine ls (w':=w11) (.agg #[.int .i64 1,.int .i64 0]) ?_ ?_
                   ·go_simp
                   try simp only[Act.put,rd]
                   refine ls (w':=w11) (.int .i64 (K:Int)) ?_ ?_
                   ·go_simp
                   try simp only[Act.put,rd]
                   refine ls (w':=w11) (.int .i64 (K1:Int)) ?_ ?_
                   ·go_simp
                   try simp only[Act.put,rd]
                   refine ls (w':=w11) (.agg #[.int .i64 1,.int .i64 (K1:Int)]) ?_ ?_
                   ·go_simp
                   try simp only[Act.put,rd]
                   refine ls (w':=w11) (.agg #[.int .i64 0,.int .i64 0]) ?_ ?_
                   ·go_simp
                   try simp only[Act.put,rd]
                   refine ls (w':=w11) (.agg #[.int .i64 1,.int .i64 0,.int .i64 0,.int .i64 1,.int .i64 1,.int .i64 0,.int .i64 1,.int .i64 (K1:Int),.int .i64 0,.int .i64 0]) ?_ ?_
                   ·refine ex_build (hbf 1 0 0 1 1 0 1 (K1:Int) 0 0 w11) ?_ rfl
                    kernel_rfl
                   try simp only[Act.put,rd]
                   refine ls (w':=w11) (.int .i64 3) ?_ ?_
                   ·go_simp
                   try simp only[Act.put,rd]
                   refine ls (w':=w11) (.agg #[.int .i64 1,.int .i64 (K1:Int)]) ?_ ?_
                   ·go_simp
                   try simp only[Act.put,rd]
                   refine ls (w':=w11.alloc (.cells #[.int .i64 0,.int .i64 0] 45)) (.pointer (some ⟨w11.heap.size,0,none⟩)) ?_ ?_
                   ·go_simp
                   try simp only[Act.put,rd]
                   refine lu (w11.alloc (.cells #[.int .i64 1,.int .i64 (K1:Int)] 45)) ?_ ?_
                   ·go_simp
                   try simp only[Act.put,rd]
                   refine wpList_nil ?_
                   go_wp2_with fail
                   go_meet
                   case rel=>exact⟨rfl,rfl⟩
                 case rest=>
                  obtain⟨rfl,rfl⟩:=hcut
                  have hw8:=heap_alloc_new w11 (.cells #[.int .i64 1,.int .i64 (K1:Int)] 45)
                  clear hbt hbf hix
                  go_wp2_with fail
                  refine (HEo.out _ _ (HI11.out.alloc _)).mono ?_
                  rintro z w12 ⟨rfl,rfl⟩
                  go_wp2_with fail
                  refine (HEm.out _ _ (HI11.out.alloc _)).mono ?_
                  rintro z w12 ⟨rfl,rfl⟩
                  go_wp2_with fail
                  go_roundg (ws.length-(i+1))
                  case measure=>omega
                  case rel=>
                   obtain⟨x1,x2,x3,x4⟩:=HX.out
                   have h2:=HI8.out
                   exact⟨i+1,R11,X,by omega,by omega,by omega,by go_num,HI11.out.map HQ6.out,(HE6.out.trans HI11.out).alloc _,x1,x2,x3,x4⟩
               ·have hs1:IntKind.i64.wrap (A-B1)=0:=by
                 rw[show wvK 4=0 from rfl] at hvs'
                 rw[show A-B1=0 by omega];exact IntWalk.i64_in _ (by omega)
                have hf:wfK T 4 k=0:=rfl
                rw[hf] at hfs hes
                rw[show wvK 4=0 from rfl] at hes
                have hs2:IntKind.i64.wrap (C-D)=0:=by rw[show C-D=0 by omega];exact IntWalk.i64_in _ (by omega)
                have hs3:IntKind.i64.wrap (E1-E2)=0:=by rw[show E1-E2=0 by omega];exact IntWalk.i64_in _ (by omega)
                have hs4:IntKind.i64.wrap (0+0)=0:=by rw[show (0:Int)+0=0 by omega];exact IntWalk.i64_in _ (by omega)
                have hbt:=build_two
                have hbf:=build_five
                have hix:=fun w=>(index_five 1 0 0 1 1 0 1 (K1:Int) 0 0 w).2.2.2.2
                clear hf hfs hes hvs' hW5 hg
                as_aux_lemma=>
                 go_wp2_with fail
                 refine HBd.out.mono ?_
                 rintro z w7 ⟨v7,rfl,he7,ho7⟩
                 obtain⟨a7,c7,rfl,_⟩:=ho7.ints.open
                 rw[toI_length,HKe.out]
                 have HI7:=Lib.hid he7
                 clear he7 ho7
                 go_wp2_with fail
                 refine (HVo.out _ _ HI7.out).mono ?_
                 rintro z w8 ⟨rfl,R8,he8⟩
                 have HI8':=Lib.hid (HI7.out.trans he8)
                 clear he8
                 go_wp2_with fail
                 refine (HVm.out _ _ HI8'.out).mono ?_
                 rintro z w9 ⟨rfl,R9,he9⟩
                 have HI9:=Lib.hid (HI8'.out.trans he9)
                 clear he9
                 go_wp2_with fail
                 refine (HBo.out _ _ HI9.out).mono ?_
                 rintro z w10 ⟨rfl,R10,he10⟩
                 have HI10:=Lib.hid (HI9.out.trans he10)
                 clear he10
                 go_wp2_with fail
                 refine (HBm.out _ _ HI10.out).mono ?_
                 rintro z w11 ⟨rfl,R11,he11⟩
                 have HI11:=Lib.hid (HI10.out.trans he11)
                 clear he11
                 go_upto_region 17 with fail
                 go_cut [24] (fun s24 wx=>s24=.pointer (some ⟨w11.heap.size,0,none⟩)∧wx=w11.alloc (.cells #[.int .i64 0,.int .i64 0] 45))
                 case first=>
                  as_aux_lemma=>
                   refine wp_region_lit ?_
                   refine ls (w':=w11) (.agg #[.int .i64 1,.int .i64 0]) ?_ ?_
                   ·go_simp
                   try simp only[Act.put,rd]
                   refine ls (w':=w11) (.agg #[.int .i64 0,.int .i64 1]) ?_ ?_
                   ·go_simp
                   try simp only[Act.put,rd]
                   refine ls (w':=w11) (.agg #[.int .i64 1,.int .i64 0]) ?_ ?_
                   ·go_simp
                   try simp only[Act.put,rd]
                   refine ls (w':=w11) (.int .i64 (K:Int)) ?_ ?_
                   ·go_simp
                   try simp only[Act.put,rd]
                   refine ls (w':=w11) (.int .i64 (K1:Int)) ?_ ?_
                   ·go_simp
                   try simp only[Act.put,rd]
                   refine ls (w':=w11) (.agg #[.int .i64 1,.int .i64 (K1:Int)]) ?_ ?_
                   ·go_simp
                   try simp only[Act.put,rd]
                   refine ls (w':=w11) (.agg #[.int .i64 0,.int .i64 0]) ?_ ?_
                   ·go_simp
                   try simp only[Act.put,rd]
                   refine ls (w':=w11) (.agg #[.int .i64 1,.int .i64 0,.int .i64 0,.int .i64 1,.int .i64 1,.int .i64 0,.int .i64 1,.int .i64 (K1:Int),.int .i64 0,.int .i64 0]) ?_ ?_
                   ·refine ex_build (hbf 1 0 0 1 1 0 1 (K1:Int) 0 0 w11) ?_ rfl
                    kernel_rfl
                   try simp only[Act.put,rd]
                   refine ls (w':=w11) (.int .i64 4) ?_ ?_
                   ·go_simp
                   try simp only[Act.put,rd]
                   refine ls (w':=w11) (.agg #[.int .i64 0,.int .i64 0]) ?_ ?_
                   ·go_simp
                   try simp only[Act.put,rd]
                   refine ls (w':=w11.alloc (.cells #[.int .i64 0,.int .i64 0] 45)) (.pointer (some ⟨w11.heap.size,0,none⟩)) ?_ ?_
                   ·go_simp
                   try simp only[Act.put,rd]
                   refine lu (w11.alloc (.cells #[.int .i64 0,.int .i64 0] 45)) ?_ ?_
                   ·go_simp
                   try simp only[Act.put,rd]
                   refine wpList_nil ?_
                   go_wp2_with fail
                   go_meet
                   case rel=>exact⟨rfl,rfl⟩
                 case rest=>
                  obtain⟨rfl,rfl⟩:=hcut
                  have hw8:=heap_alloc_new w11 (.cells #[.int .i64 0,.int .i64 0] 45)
                  clear hbt hbf hix
                  go_wp2_with fail
                  refine (HEo.out _ _ (HI11.out.alloc _)).mono ?_
                  rintro z w12 ⟨rfl,rfl⟩
                  go_wp2_with fail
                  refine (HEm.out _ _ (HI11.out.alloc _)).mono ?_
                  rintro z w12 ⟨rfl,rfl⟩
                  go_wp2_with fail
                  go_roundg (ws.length-(i+1))
                  case measure=>omega
                  case rel=>
                   obtain⟨x1,x2,x3,x4⟩:=HX.out
                   have h2:=HI8.out
                   exact⟨i+1,R11,X,by omega,by omega,by omega,by go_num,HI11.out.map HQ6.out,(HE6.out.trans HI11.out).alloc _,x1,x2,x3,x4⟩
      ·have hi2:¬ (i:Int)<(ws.length:Int):=by omega
       as_aux_lemma=>
        have HGz:=Lib.hid (egenus_any Rr wr HEr.out.inv _ T rt lone HMr.out)
        rw[HTg.out] at HGz
        go_wp2_with fail
        refine HGz.out.mono ?_
        rintro z w6 ⟨rfl,R6,he6⟩
        have HPz:=Lib.hid (eparts_any R6 w6 he6.inv _ T rt lone (he6.map HMr.out))
        rw[HTp.out] at HPz
        have HE6:=Lib.hid (HEr.out.trans he6)
        clear he6 HGz
        go_wp2_with fail
        refine HPz.out.mono ?_
        rintro z w7 ⟨v7,R7,rfl,he7,a7,c7,rfl,ho7⟩
        have HE7:=Lib.hid (HE6.out.trans he7)
        clear he7 ho7 HPz
        go_wp2_with fail
        go_ret
        exact⟨by first|rfl|simp,R7,HE7.out⟩
end Go.Proofs.Ytklkgicjfnbndaa
