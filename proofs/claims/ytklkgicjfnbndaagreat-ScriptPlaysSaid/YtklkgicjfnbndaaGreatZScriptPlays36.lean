/- walk.Of: the walk. -/
import Derived.Test.YtklkgicjfnbndaaGreatZScriptPlays20
import Derived.Test.YtklkgicjfnbndaaGreatZScriptPlays12
import Derived.Test.YtklkgicjfnbndaaGreatZScriptPlays17
namespace Go.Proofs.YtklkgicjfnbndaaGreat
section
open Go.RowKit
set_option linter.unusedVariables false
theorem seen_made {R R0:Reg} {w0:World} {W:World} {B ge gm E V:Nat} {T:TypeId} {p:Value} (he:Ev R0 w0 R W) (hB:B≤w0.heap.size) (h1:OwnI R B 3 W (.slice (some ⟨ge,0,none⟩) E E) (List.replicate E 0)) (h2:OwnV R B 4 1 W (.slice (some ⟨gm,0,none⟩) V V) V (List.replicate V (.bool false)))
  (hne:ge≠gm) (hs:Value) (hhs:hs=.pointer (some ⟨W.heap.size,0,none⟩)):
  ∃ (b g1 g2:Nat) (Rx:Reg),Ev R0 w0 Rx (W.alloc (.cells #[p,.slice (some ⟨ge,0,none⟩) E E,.slice (some ⟨gm,0,none⟩) V V] T)) ∧
   SeenAt Rx B (W.alloc (.cells #[p,.slice (some ⟨ge,0,none⟩) E E,.slice (some ⟨gm,0,none⟩) V V] T)) hs p b g1 g2 (List.replicate E 0) (List.replicate V false):=by
 have l1:=(h1.lt ge rfl).2
 have l2:=(h2.lt gm rfl).2
 have hz:=he.size
 refine⟨W.heap.size,ge,gm,R,he.alloc _,hhs,by omega,he.inv.none_of_ge (Nat.le_refl _),by omega,by omega,hne,⟨T,?_⟩,?_,?_⟩
 ·show (W.heap.push _)[W.heap.size]?=_
  simp
 ·have:=h1.alloc (.cells #[p,.slice (some ⟨ge,0,none⟩) E E,.slice (some ⟨gm,0,none⟩) V V] T)
  simpa using this
 ·have:=h2.alloc (.cells #[p,.slice (some ⟨ge,0,none⟩) E E,.slice (some ⟨gm,0,none⟩) V V] T)
  simpa using this
theorem SeenAt.cells {R:Reg} {B:Nat} {w:World} {vs p:Value} {b ge gm:Nat} {ed:List Int} {mt:List Bool} (h:SeenAt R B w vs p b ge gm ed mt) {v:Nat} (hv:v<mt.length):
  w.cell? ⟨b,2,none⟩=some (.slice (some ⟨gm,0,none⟩) mt.length mt.length)∧w.cell? ⟨gm,v,none⟩=some (.bool (getB mt v))∧w.frozen? ⟨gm,v,none⟩=false∧R gm=none∧B≤gm:=by
 obtain⟨_,_,_,_,_,_,⟨T,hblk⟩,_,hom⟩:=h
 obtain⟨_,e1,hBm,hRm,hcm,hzm⟩:=hom.headAt (i:=v) (by rw[List.length_map];exact hv)
 cases e1
 exact⟨cells_at hblk 2,by rw[hcm,getB_at hv],hzm,hRm,hBm⟩
def stepL (s:List Nat) (V root:Nat) (n:Nat):List (Int × Int):=(List.range n).map fun j=>((wd s V root j:Int),(wk s V root j:Int))
theorem stepL_length (s:List Nat) (V root n:Nat):(stepL s V root n).length=n:=by simp[stepL]
theorem stepL_succ (s:List Nat) (V root n:Nat):stepL s V root (n+1)=stepL s V root n ++ [((wd s V root n:Int),(wk s V root n:Int))]:=by simp[stepL,List.range_succ]
theorem nthS_stepL {s:List Nat} {V root n i:Nat} (h:i<n):nthS (stepL s V root n) i=((wd s V root i:Int),(wk s V root i:Int)):=by
 rw[nthS_get (by rw[stepL_length];exact h)]
 simp[stepL]
theorem bool_info':(Tryz.prog.info? 4).map (fun i=>(i.zero,i.size,i.bytes))=some (some (.bool false),1,1):=by kernel_rfl
def RetSteps (R:Reg) (w:World) (xs:List (Int × Int)) (e:Ending) (w':World):Prop:=
 ∃ R' a c,e=.returned (.tuple #[.slice a xs.length c,.int .i64 0])∧Ev R w R' w'∧OwnV R' w.heap.size 155 2 w' (.slice a xs.length c) xs.length (stepsV xs)
theorem wcnt_succ (s:List Nat) (V root k i:Nat):wcnt s V root k (i+1)=wcnt s V root k i+if wk s V root i=k then 1 else 0:=rfl
theorem SeenAt.kept {R:Reg} {B:Nat} {w w1:World} {row:Option Nat} {vs p:Value} {b ge gm:Nat} {ed:List Int} {mt:List Bool} (h:SeenAt R B w vs p b ge gm ed mt) (hg:w.grownBy w1 row) (hr:∀ k,row=some k→k≠b∧k≠ge∧k≠gm):SeenAt R B w1 vs p b ge gm ed mt:=by
 obtain⟨h1,h2,h3,h4,h5,h6,⟨T,h7⟩,h8,h9⟩:=h
 exact⟨h1,h2,h3,h4,h5,h6,⟨T,(hg.block b (lt_of_block h7) (fun e=>(hr b e.symm).1 rfl)).trans h7⟩,h8.kept hg (Or.inr fun e=>(hr ge e.symm).2.1 rfl),h9.kept hg (Or.inr fun e=>(hr gm e.symm).2.2 rfl)⟩
theorem SeenAt.lt {R:Reg} {B:Nat} {w:World} {vs p:Value} {b ge gm:Nat} {ed:List Int} {mt:List Bool} (h:SeenAt R B w vs p b ge gm ed mt) (h1:0<ed.length) (h2:0<mt.length):
  ge<w.heap.size∧gm<w.heap.size∧B≤ge∧B≤gm∧b<w.heap.size:=by
 obtain⟨_,_,_,_,_,_,⟨_,h7⟩,h8,h9⟩:=h
 have a:=h8.lt ge (by obtain⟨_,e,_⟩:=h8.headAt rfl (i:=0) h1;cases e;rfl)
 have b:=h9.lt gm (by obtain⟨_,e,_⟩:=h9.headAt (i:=0) (by rw[List.length_map];exact h2);cases e;rfl)
 exact⟨a.2,b.2,a.1,b.1,lt_of_block h7⟩
set_option maxRecDepth 100000 in
set_option maxHeartbeats 1000000 in
theorem walk_of (R:Reg) (w:World) (hI:Inv R w) (p:Value) (s:List Nat) (rt:Int) (lone:Nat) (hp:MapAt R p s rt lone) (root:Nat) (hr:root<s.length):
  Calls Tryz.prog 138 #[p,.int .i64 (root:Int)] w (RetSteps R w (stepL s ((sizesL s).length+lone) root (partC' s root))):=by
 obtain⟨hS,hok⟩:=hp.ok hI
 have he2:s.length % 2=0:=hok.1
 have hn:s.length≤131073:=hok.2.1
 have hlone:lone≤65536:=by have:=hok.2.2;omega
 have hzl:=sizesL_le hS
 obtain⟨V,hV⟩:∃ V,(sizesL s).length+lone=V:=⟨_,rfl⟩
 obtain⟨E,hE⟩:∃ V,s.length / 2=V:=⟨_,rfl⟩
 have hEg:=fun R' w' (he:Ev R w R' w')=>edges_any R' w' he.inv p s rt lone (he.map hp)
 have hVs:=fun R' w' (he:Ev R w R' w')=>vertices_any R' w' he.inv p s rt lone (he.map hp)
 rw[show (((sizesL s).length:Int)+(lone:Int))=(V:Int) by omega] at hVs
 rw[hE] at hEg
 have hDt:=darts_any R w hI p s rt lone hp
 have HEg:=Lib.hid hEg
 have HVs:=Lib.hid hVs
 have HDt:=Lib.hid hDt
 have HP:=Lib.hid hp
 have HS:=Lib.hid hS
 have HI:=Lib.hid hI
 have HIn:=Lib.hid (fun i=>winv hS he2 hr (V:=V) (by omega) i)
 have HLn:=Lib.hid (wlen hS he2 hr (V:=V) (by omega))
 have hVb:V≤200000:=by omega
 have hEb:E≤131073:=by omega
 have hrl:(root:Int)<(s.length:Int):=by omega
 obtain⟨i0,hi,hz0,hz1,hz2⟩:=info_parts int_info
 obtain⟨i1,gi,gz0,gz1,gz2⟩:=info_parts bool_info'
 obtain⟨bp,rfl,hbp⟩:=hp
 clear hI hbp hok hEg hVs hDt hzl
 have HEd:=Lib.hid (Ev.refl HI.out).drew
 go_enter Tryz.func138,Tryz.ntmps138
 go_wp2_with (go_at_call 18;refine HDt.out.mono ?_;rintro e w' ⟨rfl,rfl⟩)
 obtain⟨o1,ho1⟩:∃ o,Obj.cells (madeCells #[Value.int .i64 0] (E*1)) 3=o:=⟨_,rfl⟩
 obtain⟨o2,ho2⟩:∃ o,Obj.cells (madeCells #[Value.bool false] (V*1)) 4=o:=⟨_,rfl⟩
 have hms1:=make_eq (n:=E) Tryz.underlying25 hi hz0 hz1 (by rw[hz2];omega) (by unfold maxLen;omega)
 have hms2:=make_eq (n:=V) Tryz.underlying135 gi gz0 gz1 (by rw[gz2];omega) (by unfold maxLen;omega)
 have HO1:=Lib.hid (fun (R1:Reg) (W:World) B hI hB=>rowI_made (R:=R1) (W:=W) (B:=B) (n:=E) hI hB (by unfold maxLen;omega))
 have HO2:=Lib.hid (fun (R1:Reg) (W:World) B hI hB=>rowV_made (R:=R1) (W:=W) (B:=B) (n:=V) (E:=4) (z:=.bool false) hI hB (by unfold maxLen;omega))
 simp only[Value.cells,ho1,ho2] at hms1 hms2 HO1 HO2
 clear ho1 ho2
 have HZ:=Lib.hid HEd.out.size
 have q1:decide ((root:Int)<0)=false:=by simp
 have q2:decide (s.length≤root)=false:=by simp;omega
 simp only[q1,q2,Bool.or_false]
 go_cut [6] (fun s6 wx=>∃ (b ge gm:Nat) (Rx:Reg),Ev R w Rx wx∧SeenAt Rx w.heap.size wx s6 (.pointer (some ⟨bp,0,none⟩)) b ge gm (List.replicate E 0) (List.replicate V false))
 case first=>
  go_region_with (first
   |(go_at_call 21;(first|refine (HEg.out _ _ HEd.out).mono ?_|refine (HEg.out _ _ (HEd.out.alloc _)).mono ?_|refine (HEg.out _ _ ((HEd.out.alloc _).alloc _)).mono ?_);rintro e w' ⟨rfl,rfl⟩)
   |(go_at_call 15;first
      |(refine (HVs.out _ _ HEd.out).mono ?_;rintro e w' ⟨rfl,R',he⟩;have HEd:=Lib.hid (HEd.out.trans he);clear he)
      |(refine (HVs.out _ _ (HEd.out.alloc _)).mono ?_;rintro e w' ⟨rfl,R',he⟩;have HOe:=Lib.hid ((HO1.out R _ w.heap.size HEd.out.inv HEd.out.size).ev he);have HEd:=Lib.hid ((HEd.out.alloc _).trans he);clear he)))
  all_goals (go_wp2_with fail;go_meet)
  all_goals first
   |(refine seen_made (HEd.out.alloc o2) (Nat.le_refl _) (HOe.out.alloc o2) (HO2.out _ _ _ HEd.out.inv HEd.out.size) ?_ _ ?_
     ·have:=(HOe.out.lt _ rfl).2
      intro e
      rw[←e] at this
      exact Nat.lt_irrefl _ this
     ·simp)
   |(refine seen_made ((HEd.out.alloc o1).alloc o2) (Nat.le_refl _) ((HO1.out _ _ _ HEd.out.inv HEd.out.size).alloc o2) ?_ ?_ _ ?_
     ·simpa using HO2.out _ _ _ (HEd.out.alloc o1).inv (HEd.out.alloc o1).size
     ·simp
     ·simp)
   |(refine seen_made ((HEd.out.alloc o2).alloc o1) (Nat.le_refl _) ?_ ((HO2.out _ _ _ HEd.out.inv HEd.out.size).alloc o1) ?_ _ ?_
     ·simpa using HO1.out _ _ _ (HEd.out.alloc o2).inv (HEd.out.alloc o2).size
     ·simp
     ·simp)
 case rest=>
  obtain⟨b,ge,gm,Rx,he,hsn⟩:=hcut
  have HSN:=Lib.hid hsn
  have HEd:=Lib.hid he.drew
  have HEx:=Lib.hid he
  have hrv:=vtx_lt HS.out hr
  obtain⟨v,hv⟩:∃ v,vtx s root=v:=⟨_,rfl⟩
  have HVx:=Lib.hid (fun R' w' (he:Ev R w R' w')=>by
   have:=vertex_any R' w' he.inv _ s rt lone (he.map HP.out) (root:Int)
   rwa [nameI_in hr,vtx_eq HS.out hr,hv] at this)
  rw[hv] at hrv
  have hvV:v<V:=by omega
  obtain⟨rfl,hBb,hRb,hbe,hbm,hem,⟨T,hblk⟩,hoe,hom⟩:=hsn
  obtain⟨wf,hwf⟩:∃ wf,wf=wc:=⟨_,rfl⟩
  subst hwf
  obtain⟨y,hy⟩:∃ y,getB (List.replicate V false) v=y:=⟨_,rfl⟩
  have HCL:Hid (∀ R' w',Ev Rx wf R' w'→w'.cell? ⟨b,2,none⟩=some (.slice (some ⟨gm,0,none⟩) V V)∧w'.cell? ⟨gm,v,none⟩=some (.bool y)∧w'.frozen? ⟨gm,v,none⟩=false∧R' gm=none∧w.heap.size≤gm):=Lib.hid (fun R' w' he=>by
   have h:=(HSN.out.ev he).cells (v:=v) (by simp;omega)
   rwa [hy,List.length_replicate] at h)
  clear hy
  obtain⟨c0,c1,c2,c3,c4⟩:=HCL.out _ _ (Ev.refl HEx.out.inv).drew
  have HEc:=Lib.hid ((Ev.refl HEx.out.inv).drew)
  clear hblk hoe hom he
  go_upto_region 6 with fail
  go_cut [] (fun wx=>∃ Ry,Ev R w Ry wx∧SeenAt Ry w.heap.size wx (.pointer (some ⟨b,0,none⟩)) (.pointer (some ⟨bp,0,none⟩)) b ge gm (List.replicate E 0) ((List.replicate V false).set v true))
  case first=>
   go_region_held3 (fun w'=>w'.cell? ⟨b,2,none⟩=some (.slice (some ⟨gm,0,none⟩) V V)) (first|exact c0|(rw[World.cell?_setCell_other _ _ _ _ (fun e=>hbm (by injection e with e1;first|exact e1|exact e1.symm))];exact c0)) (first|(go_at_call 65;refine (HVx.out _ _ HEd.out).mono ?_;rintro e w' ⟨rfl,R',he⟩;have HEd:=Lib.hid (HEd.out.trans he);have HEc:=Lib.hid (HEc.out.trans he);clear he;obtain⟨c0,c1,c2,c3,c4⟩:=HCL.out _ _ HEc.out))
   all_goals (go_wp2_with fail;go_meet)
   all_goals exact⟨_,HEd.out.setCell (p:=⟨gm,v,none⟩) c4 c3 _,(HSN.out.ev HEc.out).putM v true⟩
  case rest=>
   obtain⟨Ry,he,hsn⟩:=hcut
   obtain⟨w6,hw6⟩:∃ w6,w6=wc:=⟨_,rfl⟩
   subst hw6
   have hE1:0<E:=by omega
   obtain⟨l1,l2,l3,l4,l5⟩:=hsn.lt (by simpa using hE1) (by simp;omega)
   have HS6:=Lib.hid hsn
   have HE6:=Lib.hid he
   have hwl:=HLn.out
   obtain⟨P,hP⟩:∃ P,partC' s root=P:=⟨_,rfl⟩
   rw[hP] at hwl
   obtain⟨hwr,hP0,hmin⟩:=hwl
   have hPb:P≤131073:=by
    rw[←hP];have:=tally_le (Con s root) s.length;unfold partC';omega
   have HBal:=Lib.hid (wbal HS.out he2 hr (V:=V) (by omega)).1
   rw[hP] at HBal
   have HWR:=Lib.hid hwr
   have HMin:=Lib.hid hmin
   clear he hsn c0 c1 c2 HCL HSN hwr hmin HVx HLn
   have HP1:=Lib.hid hP
   clear hP
   go_wp2_with fail
   go_loopg [7,8,9] P (fun g v7 v8 v9 wr=>∃ (j:Nat) (Rj:Reg) (a:Option Addr) (c:Nat),j<P∧P-j≤g∧v7=.slice a j c∧v8=.int .i64 ((wd s V root j:Nat):Int)∧v9=.int .i64 ((wcnt s V root 0 j:Int)-(wcnt s V root 1 j:Int))∧Ev R w Rj wr∧w6.heap.size≤wr.heap.size∧SeenAt Rj w.heap.size wr (.pointer (some ⟨b,0,none⟩)) (.pointer (some ⟨bp,0,none⟩)) b ge gm (wst s V root j).ed (wst s V root j).mt∧OwnV Rj w6.heap.size 155 2 wr (.slice a j c) j (stepsV (stepL s V root j)))
   case atStart=>exact⟨0,Ry,none,0,hP0,by omega,rfl,rfl,by simp[wcnt],HE6.out,Nat.le_refl _,(by have:=HS6.out;rw[←hE,←hv] at this;exact this),OwnV.nil _ _ _ _ _⟩
   case round=>
    obtain⟨j,Rj,a,c,hj,hg,rfl,rfl,rfl,he,hz6,hsn,ho⟩:=hrel
    have hI:=HIn.out j
    obtain⟨st,hst⟩:∃ st,wst s V root j=st:=⟨_,rfl⟩
    obtain⟨d,hdd⟩:∃ d,wd s V root j=d:=⟨_,rfl⟩
    have hsd:st.d=d:=by rw[←hdd];unfold wd;rw[hst]
    have hdl:d<s.length:=by rw[←hdd];exact hI.lt j (Nat.le_refl _)
    have hdb:d<131073:=by omega
    have hel:=hI.edl
    have hml:=hI.mtl
    have hvals:=hI.vals (st.d / 2)
    rw[hst] at hel hml hvals hsn
    have hsk:wkind s st=wk s V root j:=by unfold wk;rw[hst]
    have hK:=kind_any Rj wr he.inv w.heap.size _ _ b ge gm s rt lone (he.map HP.out) st hsn (by rw[hsd];exact hdl) hel (by omega) (by omega) hvals
    rw[hsd] at hK
    have HKd:=Lib.hid hK
    obtain⟨t,ht⟩:∃ t,(wcnt s V root 0 j:Int)-(wcnt s V root 1 j:Int)=t:=⟨_,rfl⟩
    have hc0:=wcnt_le s V root 0 j
    have hc1:=wcnt_le s V root 1 j
    have htb:-131073≤t∧t≤131073:=by omega
    have hk3:=wk_le s V root j
    have HMt:=Lib.hid (fun R' w' (he:Ev R w R' w')=>by
     have:=mate_any R' w' he.inv _ s rt lone (he.map HP.out) d
     rwa [mateI_in hdl] at this)
    have HSg:=Lib.hid (fun R' w' (he:Ev R w R' w') (x:Nat) (hx:x<s.length)=>by
     have:=sigma_any R' w' he.inv _ s rt lone (he.map HP.out) x
     rwa [atI_in hx] at this)
    have HNX:=Lib.hid ((HIn.out (j+1)).lt (j+1) (Nat.le_refl _))
    have HED:Hid ((wst s V root (j+1)).ed=wed s st∧(wst s V root (j+1)).mt=wmt s st):=Lib.hid (by
     have e:wst s V root (j+1)=wnext s (wst s V root j):=rfl
     rw[e,hst];exact⟨rfl,rfl⟩)
    rw[hdd,ht]
    have hkc:wk s V root j=0∨wk s V root j=1∨wk s V root j=2∨wk s V root j=3:=by omega
    clear hI hel hml hvals hK hc0 hc1 hk3
    rcases hkc with hkk|hkk|hkk|hkk
    ·-- kind 0
     have hki:((wkind s st:Nat):Int)=0:=by rw[hsk,hkk];rfl
     have hwn:wd s V root (j+1)=at' s (d ^^^ 1):=by
      have e:wd s V root (j+1)=wdart s (wst s V root j):=rfl
      rw[e,hst];unfold wdart;rw[hsk,hkk,hsd];rfl
     have hT:(wcnt s V root 0 (j+1):Int)-(wcnt s V root 1 (j+1):Int)=t+1:=by
      rw[←ht,wcnt_succ,wcnt_succ,hkk];simp <;> omega
     have hstp:stepL s V root (j+1)=stepL s V root j ++ [((d:Int),0)]:=by rw[stepL_succ,hdd,hkk];rfl
     have HWN:=Lib.hid hwn
     have HTT:=Lib.hid hT
     have HSTP:=Lib.hid hstp
     clear hwn hT hstp
     go_wp2_with fail
     refine HKd.out.mono ?_
     rintro e w1 ⟨R1,rfl,hevp,hsn1⟩
     rw[hki]
     have HE1:=Lib.hid (he.thenP hevp (fun i hi=>by rcases hi with rfl|rfl;exact l3;exact l4))
     have hz1:w6.heap.size≤w1.heap.size:=Nat.le_trans hz6 hevp.size
     have ho1:=(ho.evP hevp (fun i hi=>by rcases hi with rfl|rfl;exact l1;exact l2)).alloc (.cells #[.int .i64 (d:Int),.int .i64 0] 155)
     have HO1:=Lib.hid ho1
     have HE2:=Lib.hid (HE1.out.alloc (.cells #[.int .i64 (d:Int),.int .i64 0] 155))
     have HSN1:=Lib.hid (hsn1.ev ((Ev.refl HE1.out.inv).alloc (.cells #[.int .i64 (d:Int),.int .i64 0] 155)))
     clear ho1 hevp hsn1 ho he hsn hki
     go_wp2_with (at_builtin;refine wpList_app_row 151 155 2 16 _ Tryz.underlying151 step_info rfl (by omega) (by omega) (R:=R1) (B:=w6.heap.size) rfl _ _ rfl HO1.out rfl ⟨w1.heap.size,0,none⟩ 1 1 [.int .i64 (d:Int),.int .i64 0] rfl rfl ?g10 ?g20 ?g30 ?g40 ?g50 ?_)
     case g10=>exact cells_new _ _ _
     case g20=>
      intro u hu
      simp only[List.mem_cons,List.not_mem_nil,or_false] at hu
      rcases hu with rfl|rfl <;> rfl
     case g30=>omega
     case g40=>simp;omega
     case g50=>exact fun q hq=>HE2.out.inv.none_of_ge (by simp at hq ⊢;omega)
     intro v' w5 ho5 hg5 _
     have hz5:w6.heap.size≤w5.heap.size:=Nat.le_trans (by simp;omega) hg5.size
     have HSN5:=Lib.hid (HSN1.out.kept hg5 (fun q hq=>by have:=(HO1.out.lt q hq).1;omega))
     have HE5:=Lib.hid (HE2.out.appV HO1.out (by have:=HE6.out.size;omega) hg5)
     have HO5:=Lib.hid ho5
     clear ho5 hg5
     obtain⟨a6,c6,rfl,_⟩:=HO5.out.open
     go_wp2_with fail
     refine (HMt.out _ _ HE5.out).mono ?_
     rintro e w7 ⟨rfl,rfl⟩
     go_wp2_with fail
     refine (HSg.out _ _ HE5.out (d ^^^ 1) (xor_one_lt he2 hdl)).mono ?_
     rintro e w7 ⟨rfl,rfl⟩
     rw[←HWN.out]
     have hnx:=HNX.out
     obtain⟨nx,hnn⟩:∃ x,wd s V root (j+1)=x:=⟨_,rfl⟩
     rw[hnn] at hnx ⊢
     have HNN:=Lib.hid hnn
     clear hnn
     by_cases hjp:j+1=P
     ·have e1:(nx:Int)=(root:Int):=by rw[←HNN.out,hjp,HWR.out]
      have e2:t+1=0:=by rw[←HTT.out,hjp,HBal.out];omega
      have b1:(t+1 == (0:Int))=true:=by simp;omega
      have b2:((nx:Int) == (root:Int))=true:=by simp[e1]
      go_wp2_with fail
      go_ret2
      have ho:=HO5.out
      have e3:stepsV (stepL s V root j) ++ [.int .i64 (d:Int),.int .i64 0]=stepsV (stepL s V root (partC' s root)):=by rw[HP1.out,←hjp,HSTP.out,stepsV_append];rfl
      rw[e3] at ho
      have e4:(stepL s ((sizesL s).length+lone) root (partC' s root)).length=P:=by rw[stepL_length,HP1.out]
      rw[hjp] at ho
      exact⟨R1,a6,c6,by rw[e4];rfl,HE5.out,by rw[e4,hV];exact ho.mono HE6.out.size⟩
     ·have hne:=HMin.out (j+1) (by omega) (by omega)
      rw[HNN.out] at hne
      have b2:((nx:Int) == (root:Int))=false:=by simp;omega
      by_cases ht1:t+1=0
      ·have b1:(t+1 == (0:Int))=true:=by simp;omega
       go_wp2_with fail
       go_roundg (P-(j+1))
       case measure=>omega
       case rel=>exact⟨j+1,R1,a6,c6,by omega,by omega,rfl,by rw[HNN.out],(congrArg (Value.int .i64) (by have:=HTT.out;omega)),HE5.out,hz5,by rw[HED.out.1,HED.out.2];exact HSN5.out,by have ho:=HO5.out;rw[HSTP.out,stepsV_append];exact ho⟩
      ·have b1:(t+1 == (0:Int))=false:=by simp;omega
       go_wp2_with fail
       go_roundg (P-(j+1))
       case measure=>omega
       case rel=>exact⟨j+1,R1,a6,c6,by omega,by omega,rfl,by rw[HNN.out],(congrArg (Value.int .i64) (by have:=HTT.out;omega)),HE5.out,hz5,by rw[HED.out.1,HED.out.2];exact HSN5.out,by have ho:=HO5.out;rw[HSTP.out,stepsV_append];exact ho⟩
    ·-- kind 1
     have hki:((wkind s st:Nat):Int)=1:=by rw[hsk,hkk];rfl
     have hwn:wd s V root (j+1)=at' s (d ^^^ 1):=by
      have e:wd s V root (j+1)=wdart s (wst s V root j):=rfl
      rw[e,hst];unfold wdart;rw[hsk,hkk,hsd];rfl
     have hT:(wcnt s V root 0 (j+1):Int)-(wcnt s V root 1 (j+1):Int)=t-1:=by
      rw[←ht,wcnt_succ,wcnt_succ,hkk];simp <;> omega
     have hstp:stepL s V root (j+1)=stepL s V root j ++ [((d:Int),1)]:=by rw[stepL_succ,hdd,hkk];rfl
     have HWN:=Lib.hid hwn
     have HTT:=Lib.hid hT
     have HSTP:=Lib.hid hstp
     clear hwn hT hstp
     go_wp2_with fail
     refine HKd.out.mono ?_
     rintro e w1 ⟨R1,rfl,hevp,hsn1⟩
     rw[hki]
     have HE1:=Lib.hid (he.thenP hevp (fun i hi=>by rcases hi with rfl|rfl;exact l3;exact l4))
     have hz1:w6.heap.size≤w1.heap.size:=Nat.le_trans hz6 hevp.size
     have ho1:=(ho.evP hevp (fun i hi=>by rcases hi with rfl|rfl;exact l1;exact l2)).alloc (.cells #[.int .i64 (d:Int),.int .i64 1] 155)
     have HO1:=Lib.hid ho1
     have HE2:=Lib.hid (HE1.out.alloc (.cells #[.int .i64 (d:Int),.int .i64 1] 155))
     have HSN1:=Lib.hid (hsn1.ev ((Ev.refl HE1.out.inv).alloc (.cells #[.int .i64 (d:Int),.int .i64 1] 155)))
     clear ho1 hevp hsn1 ho he hsn hki
     go_wp2_with (at_builtin;refine wpList_app_row 151 155 2 16 _ Tryz.underlying151 step_info rfl (by omega) (by omega) (R:=R1) (B:=w6.heap.size) rfl _ _ rfl HO1.out rfl ⟨w1.heap.size,0,none⟩ 1 1 [.int .i64 (d:Int),.int .i64 1] rfl rfl ?g11 ?g21 ?g31 ?g41 ?g51 ?_)
     case g11=>exact cells_new _ _ _
     case g21=>
      intro u hu
      simp only[List.mem_cons,List.not_mem_nil,or_false] at hu
      rcases hu with rfl|rfl <;> rfl
     case g31=>omega
     case g41=>simp;omega
     case g51=>exact fun q hq=>HE2.out.inv.none_of_ge (by simp at hq ⊢;omega)
     intro v' w5 ho5 hg5 _
     have hz5:w6.heap.size≤w5.heap.size:=Nat.le_trans (by simp;omega) hg5.size
     have HSN5:=Lib.hid (HSN1.out.kept hg5 (fun q hq=>by have:=(HO1.out.lt q hq).1;omega))
     have HE5:=Lib.hid (HE2.out.appV HO1.out (by have:=HE6.out.size;omega) hg5)
     have HO5:=Lib.hid ho5
     clear ho5 hg5
     obtain⟨a6,c6,rfl,_⟩:=HO5.out.open
     go_wp2_with fail
     refine (HMt.out _ _ HE5.out).mono ?_
     rintro e w7 ⟨rfl,rfl⟩
     go_wp2_with fail
     refine (HSg.out _ _ HE5.out (d ^^^ 1) (xor_one_lt he2 hdl)).mono ?_
     rintro e w7 ⟨rfl,rfl⟩
     rw[←HWN.out]
     have hnx:=HNX.out
     obtain⟨nx,hnn⟩:∃ x,wd s V root (j+1)=x:=⟨_,rfl⟩
     rw[hnn] at hnx ⊢
     have HNN:=Lib.hid hnn
     clear hnn
     by_cases hjp:j+1=P
     ·have e1:(nx:Int)=(root:Int):=by rw[←HNN.out,hjp,HWR.out]
      have e2:t-1=0:=by rw[←HTT.out,hjp,HBal.out];omega
      have b1:(t-1 == (0:Int))=true:=by simp;omega
      have b1':(t+-1 == (0:Int))=true:=by simp;omega
      have b2:((nx:Int) == (root:Int))=true:=by simp[e1]
      go_wp2_with fail
      go_ret2
      have ho:=HO5.out
      have e3:stepsV (stepL s V root j) ++ [.int .i64 (d:Int),.int .i64 1]=stepsV (stepL s V root (partC' s root)):=by rw[HP1.out,←hjp,HSTP.out,stepsV_append];rfl
      rw[e3] at ho
      have e4:(stepL s ((sizesL s).length+lone) root (partC' s root)).length=P:=by rw[stepL_length,HP1.out]
      rw[hjp] at ho
      exact⟨R1,a6,c6,by rw[e4];rfl,HE5.out,by rw[e4,hV];exact ho.mono HE6.out.size⟩
     ·have hne:=HMin.out (j+1) (by omega) (by omega)
      rw[HNN.out] at hne
      have b2:((nx:Int) == (root:Int))=false:=by simp;omega
      by_cases ht1:t-1=0
      ·have b1:(t-1 == (0:Int))=true:=by simp;omega
       have b1':(t+-1 == (0:Int))=true:=by simp;omega
       go_wp2_with fail
       go_roundg (P-(j+1))
       case measure=>omega
       case rel=>exact⟨j+1,R1,a6,c6,by omega,by omega,rfl,by rw[HNN.out],(congrArg (Value.int .i64) (by have:=HTT.out;omega)),HE5.out,hz5,by rw[HED.out.1,HED.out.2];exact HSN5.out,by have ho:=HO5.out;rw[HSTP.out,stepsV_append];exact ho⟩
      ·have b1:(t-1 == (0:Int))=false:=by simp;omega
       have b1':(t+-1 == (0:Int))=false:=by simp;omega
       go_wp2_with fail
       go_roundg (P-(j+1))
       case measure=>omega
       case rel=>exact⟨j+1,R1,a6,c6,by omega,by omega,rfl,by rw[HNN.out],(congrArg (Value.int .i64) (by have:=HTT.out;omega)),HE5.out,hz5,by rw[HED.out.1,HED.out.2];exact HSN5.out,by have ho:=HO5.out;rw[HSTP.out,stepsV_append];exact ho⟩
    ·-- kind 2
     have hki:((wkind s st:Nat):Int)=2:=by rw[hsk,hkk];rfl
     have hwn:wd s V root (j+1)=at' s d:=by
      have e:wd s V root (j+1)=wdart s (wst s V root j):=rfl
      rw[e,hst];unfold wdart;rw[hsk,hkk,hsd];rfl
     have hT:(wcnt s V root 0 (j+1):Int)-(wcnt s V root 1 (j+1):Int)=t:=by
      rw[←ht,wcnt_succ,wcnt_succ,hkk];simp <;> omega
     have hstp:stepL s V root (j+1)=stepL s V root j ++ [((d:Int),2)]:=by rw[stepL_succ,hdd,hkk];rfl
     have HWN:=Lib.hid hwn
     have HTT:=Lib.hid hT
     have HSTP:=Lib.hid hstp
     clear hwn hT hstp
     go_wp2_with fail
     refine HKd.out.mono ?_
     rintro e w1 ⟨R1,rfl,hevp,hsn1⟩
     rw[hki]
     have HE1:=Lib.hid (he.thenP hevp (fun i hi=>by rcases hi with rfl|rfl;exact l3;exact l4))
     have hz1:w6.heap.size≤w1.heap.size:=Nat.le_trans hz6 hevp.size
     have ho1:=(ho.evP hevp (fun i hi=>by rcases hi with rfl|rfl;exact l1;exact l2)).alloc (.cells #[.int .i64 (d:Int),.int .i64 2] 155)
     have HO1:=Lib.hid ho1
     have HE2:=Lib.hid (HE1.out.alloc (.cells #[.int .i64 (d:Int),.int .i64 2] 155))
     have HSN1:=Lib.hid (hsn1.ev ((Ev.refl HE1.out.inv).alloc (.cells #[.int .i64 (d:Int),.int .i64 2] 155)))
     clear ho1 hevp hsn1 ho he hsn hki
     go_wp2_with (at_builtin;refine wpList_app_row 151 155 2 16 _ Tryz.underlying151 step_info rfl (by omega) (by omega) (R:=R1) (B:=w6.heap.size) rfl _ _ rfl HO1.out rfl ⟨w1.heap.size,0,none⟩ 1 1 [.int .i64 (d:Int),.int .i64 2] rfl rfl ?g12 ?g22 ?g32 ?g42 ?g52 ?_)
     case g12=>exact cells_new _ _ _
     case g22=>
      intro u hu
      simp only[List.mem_cons,List.not_mem_nil,or_false] at hu
      rcases hu with rfl|rfl <;> rfl
     case g32=>omega
     case g42=>simp;omega
     case g52=>exact fun q hq=>HE2.out.inv.none_of_ge (by simp at hq ⊢;omega)
     intro v' w5 ho5 hg5 _
     have hz5:w6.heap.size≤w5.heap.size:=Nat.le_trans (by simp;omega) hg5.size
     have HSN5:=Lib.hid (HSN1.out.kept hg5 (fun q hq=>by have:=(HO1.out.lt q hq).1;omega))
     have HE5:=Lib.hid (HE2.out.appV HO1.out (by have:=HE6.out.size;omega) hg5)
     have HO5:=Lib.hid ho5
     clear ho5 hg5
     obtain⟨a6,c6,rfl,_⟩:=HO5.out.open
     go_wp2_with fail
     refine (HSg.out _ _ HE5.out d hdl).mono ?_
     rintro e w7 ⟨rfl,rfl⟩
     rw[←HWN.out]
     have hnx:=HNX.out
     obtain⟨nx,hnn⟩:∃ x,wd s V root (j+1)=x:=⟨_,rfl⟩
     rw[hnn] at hnx ⊢
     have HNN:=Lib.hid hnn
     clear hnn
     by_cases hjp:j+1=P
     ·have e1:(nx:Int)=(root:Int):=by rw[←HNN.out,hjp,HWR.out]
      have e2:t=0:=by rw[←HTT.out,hjp,HBal.out];omega
      have b1:(t == (0:Int))=true:=by simp;omega
      have b2:((nx:Int) == (root:Int))=true:=by simp[e1]
      go_wp2_with fail
      go_ret2
      have ho:=HO5.out
      have e3:stepsV (stepL s V root j) ++ [.int .i64 (d:Int),.int .i64 2]=stepsV (stepL s V root (partC' s root)):=by rw[HP1.out,←hjp,HSTP.out,stepsV_append];rfl
      rw[e3] at ho
      have e4:(stepL s ((sizesL s).length+lone) root (partC' s root)).length=P:=by rw[stepL_length,HP1.out]
      rw[hjp] at ho
      exact⟨R1,a6,c6,by rw[e4];rfl,HE5.out,by rw[e4,hV];exact ho.mono HE6.out.size⟩
     ·have hne:=HMin.out (j+1) (by omega) (by omega)
      rw[HNN.out] at hne
      have b2:((nx:Int) == (root:Int))=false:=by simp;omega
      by_cases ht1:t=0
      ·have b1:(t == (0:Int))=true:=by simp;omega
       go_wp2_with fail
       go_roundg (P-(j+1))
       case measure=>omega
       case rel=>exact⟨j+1,R1,a6,c6,by omega,by omega,rfl,by rw[HNN.out],(congrArg (Value.int .i64) (by have:=HTT.out;omega)),HE5.out,hz5,by rw[HED.out.1,HED.out.2];exact HSN5.out,by have ho:=HO5.out;rw[HSTP.out,stepsV_append];exact ho⟩
      ·have b1:(t == (0:Int))=false:=by simp;omega
       go_wp2_with fail
       go_roundg (P-(j+1))
       case measure=>omega
       case rel=>exact⟨j+1,R1,a6,c6,by omega,by omega,rfl,by rw[HNN.out],(congrArg (Value.int .i64) (by have:=HTT.out;omega)),HE5.out,hz5,by rw[HED.out.1,HED.out.2];exact HSN5.out,by have ho:=HO5.out;rw[HSTP.out,stepsV_append];exact ho⟩
    ·-- kind 3
     have hki:((wkind s st:Nat):Int)=3:=by rw[hsk,hkk];rfl
     have hwn:wd s V root (j+1)=at' s d:=by
      have e:wd s V root (j+1)=wdart s (wst s V root j):=rfl
      rw[e,hst];unfold wdart;rw[hsk,hkk,hsd];rfl
     have hT:(wcnt s V root 0 (j+1):Int)-(wcnt s V root 1 (j+1):Int)=t:=by
      rw[←ht,wcnt_succ,wcnt_succ,hkk];simp <;> omega
     have hstp:stepL s V root (j+1)=stepL s V root j ++ [((d:Int),3)]:=by rw[stepL_succ,hdd,hkk];rfl
     have HWN:=Lib.hid hwn
     have HTT:=Lib.hid hT
     have HSTP:=Lib.hid hstp
     clear hwn hT hstp
     go_wp2_with fail
     refine HKd.out.mono ?_
     rintro e w1 ⟨R1,rfl,hevp,hsn1⟩
     rw[hki]
     have HE1:=Lib.hid (he.thenP hevp (fun i hi=>by rcases hi with rfl|rfl;exact l3;exact l4))
     have hz1:w6.heap.size≤w1.heap.size:=Nat.le_trans hz6 hevp.size
     have ho1:=(ho.evP hevp (fun i hi=>by rcases hi with rfl|rfl;exact l1;exact l2)).alloc (.cells #[.int .i64 (d:Int),.int .i64 3] 155)
     have HO1:=Lib.hid ho1
     have HE2:=Lib.hid (HE1.out.alloc (.cells #[.int .i64 (d:Int),.int .i64 3] 155))
     have HSN1:=Lib.hid (hsn1.ev ((Ev.refl HE1.out.inv).alloc (.cells #[.int .i64 (d:Int),.int .i64 3] 155)))
     clear ho1 hevp hsn1 ho he hsn hki
     go_wp2_with (at_builtin;refine wpList_app_row 151 155 2 16 _ Tryz.underlying151 step_info rfl (by omega) (by omega) (R:=R1) (B:=w6.heap.size) rfl _ _ rfl HO1.out rfl ⟨w1.heap.size,0,none⟩ 1 1 [.int .i64 (d:Int),.int .i64 3] rfl rfl ?g13 ?g23 ?g33 ?g43 ?g53 ?_)
     case g13=>exact cells_new _ _ _
     case g23=>
      intro u hu
      simp only[List.mem_cons,List.not_mem_nil,or_false] at hu
      rcases hu with rfl|rfl <;> rfl
     case g33=>omega
     case g43=>simp;omega
     case g53=>exact fun q hq=>HE2.out.inv.none_of_ge (by simp at hq ⊢;omega)
     intro v' w5 ho5 hg5 _
     have hz5:w6.heap.size≤w5.heap.size:=Nat.le_trans (by simp;omega) hg5.size
     have HSN5:=Lib.hid (HSN1.out.kept hg5 (fun q hq=>by have:=(HO1.out.lt q hq).1;omega))
     have HE5:=Lib.hid (HE2.out.appV HO1.out (by have:=HE6.out.size;omega) hg5)
     have HO5:=Lib.hid ho5
     clear ho5 hg5
     obtain⟨a6,c6,rfl,_⟩:=HO5.out.open
     go_wp2_with fail
     refine (HSg.out _ _ HE5.out d hdl).mono ?_
     rintro e w7 ⟨rfl,rfl⟩
     rw[←HWN.out]
     have hnx:=HNX.out
     obtain⟨nx,hnn⟩:∃ x,wd s V root (j+1)=x:=⟨_,rfl⟩
     rw[hnn] at hnx ⊢
     have HNN:=Lib.hid hnn
     clear hnn
     by_cases hjp:j+1=P
     ·have e1:(nx:Int)=(root:Int):=by rw[←HNN.out,hjp,HWR.out]
      have e2:t=0:=by rw[←HTT.out,hjp,HBal.out];omega
      have b1:(t == (0:Int))=true:=by simp;omega
      have b2:((nx:Int) == (root:Int))=true:=by simp[e1]
      go_wp2_with fail
      go_ret2
      have ho:=HO5.out
      have e3:stepsV (stepL s V root j) ++ [.int .i64 (d:Int),.int .i64 3]=stepsV (stepL s V root (partC' s root)):=by rw[HP1.out,←hjp,HSTP.out,stepsV_append];rfl
      rw[e3] at ho
      have e4:(stepL s ((sizesL s).length+lone) root (partC' s root)).length=P:=by rw[stepL_length,HP1.out]
      rw[hjp] at ho
      exact⟨R1,a6,c6,by rw[e4];rfl,HE5.out,by rw[e4,hV];exact ho.mono HE6.out.size⟩
     ·have hne:=HMin.out (j+1) (by omega) (by omega)
      rw[HNN.out] at hne
      have b2:((nx:Int) == (root:Int))=false:=by simp;omega
      by_cases ht1:t=0
      ·have b1:(t == (0:Int))=true:=by simp;omega
       go_wp2_with fail
       go_roundg (P-(j+1))
       case measure=>omega
       case rel=>exact⟨j+1,R1,a6,c6,by omega,by omega,rfl,by rw[HNN.out],(congrArg (Value.int .i64) (by have:=HTT.out;omega)),HE5.out,hz5,by rw[HED.out.1,HED.out.2];exact HSN5.out,by have ho:=HO5.out;rw[HSTP.out,stepsV_append];exact ho⟩
      ·have b1:(t == (0:Int))=false:=by simp;omega
       go_wp2_with fail
       go_roundg (P-(j+1))
       case measure=>omega
       case rel=>exact⟨j+1,R1,a6,c6,by omega,by omega,rfl,by rw[HNN.out],(congrArg (Value.int .i64) (by have:=HTT.out;omega)),HE5.out,hz5,by rw[HED.out.1,HED.out.2];exact HSN5.out,by have ho:=HO5.out;rw[HSTP.out,stepsV_append];exact ho⟩
end
section
open Go.RowKit
set_option linter.unusedVariables false
theorem u8_info:(Tryz.prog.info? 5).map (fun i=>(i.zero,i.size,i.bytes))=some (some (.int .u8 0),1,1):=by kernel_rfl
def bytesV (bs:List Nat):List Value:=bs.map fun b=>Value.int .u8 ((b:Nat):Int)
theorem bytesV_length (bs:List Nat):(bytesV bs).length=bs.length:=by simp[bytesV]
theorem bytesV_get {bs:List Nat} {i:Nat} (hi:i<bs.length):(bytesV bs)[i]?=some (.int .u8 ((at' bs i:Nat):Int)):=by
 unfold bytesV at'
 rw[List.getElem?_map,List.getElem?_eq_getElem hi,List.getD_eq_getElem?_getD,List.getElem?_eq_getElem hi]
 rfl
theorem bytesV_one (bs:List Nat):∀ u∈bytesV bs,u.oneCell'=true:=by
 intro u hu
 unfold bytesV at hu
 obtain⟨b,_,rfl⟩:=List.mem_map.1 hu
 rfl
theorem FreeB.cell {R:Reg} {w:World} {a:Option Addr} {cap:Nat} {bs:List Nat} (h:FreeB R w (.slice a bs.length cap) bs) {i:Nat} (hi:i<bs.length):∃ b off,a=some ⟨b,off,none⟩∧R b=none∧w.cell? ⟨b,off+i,none⟩=some (.int .u8 ((at' bs i:Nat):Int))∧at' bs i≤255:=by
 obtain⟨a',cap',e,h1,h2⟩:=h
 cases e
 exact h2 i hi
theorem OwnV.bytes {R:Reg} {B:Nat} {w:World} {v:Value} {bs:List Nat} (h:OwnV R B 5 1 w v bs.length (bytesV bs)) (hb:∀ i,i<bs.length→at' bs i≤255):FreeB R w v bs:=by
 obtain⟨a,c,rfl,h1,h2,_⟩:=h.open
 refine⟨a,c,rfl,by omega,fun i hi=>?_⟩
 obtain⟨g,rfl,_,hr,hc,_⟩:=h.headAt (i:=i) (by rw[bytesV_length];exact hi)
 rw[bytesV_get hi] at hc
 exact⟨g,0,rfl,hr,by rw[Nat.zero_add];exact hc,hb i hi⟩
set_option maxRecDepth 100000 in
set_option maxHeartbeats 1000000 in
theorem bclone_any (R:Reg) (w:World) (hI:Inv R w) (a:Option Addr) (cap:Nat) (bs:List Nat) (hv:FreeB R w (.slice a bs.length cap) bs) (hn:bs.length≤1000000):
  Calls Tryz.prog 40 #[.slice a bs.length cap] w fun e w'=>∃ v,e=.returned v∧Ev R w R w'∧OwnV R w.heap.size 5 1 w' v bs.length (bytesV bs):=by
 have q25:∀ (w:World) (a:Option Addr) (n c n' c':Nat),(binOp .eql 22 (.slice a n c) (.slice none n' c')).run Tryz.prog w=.ok (.bool a.isNone) w:=fun w a n c n' c'=>Lib.run_eql_slice_nil w _ _ a n c n' c' Tryz.underlying22
 rcases a with _|ad
 ·have hx:bs=[]:=by
   rcases bs with _|⟨x,xs⟩
   ·rfl
   ·obtain⟨b,off,e,_⟩:=hv.cell (i:=0) (by simp)
    cases e
  subst hx
  have HI:=Lib.hid hI
  clear hv hI hn
  go_enter Tryz.func40,Tryz.ntmps40
  go_wp2_with fail
  go_ret
  exact⟨_,rfl,Ev.refl HI.out,OwnV.nil R _ _ _ _⟩
 ·have hsrc:∀ j u,(bytesV bs)[j]?=some u→(w.alloc (.cells #[] 5)).cell? (ad.add j)=some u:=by
   intro j u hj
   have hjl:j<bs.length:=by have:=(List.getElem?_eq_some_iff.1 hj).1;rwa [bytesV_length] at this
   obtain⟨b,off,e,_,hc,_⟩:=hv.cell hjl
   cases e
   rw[bytesV_get hjl] at hj
   rw[Addr.add_lit,World.cell?_alloc_lt _ _ _ (lt_of_cell hc),hc]
   exact hj
  have HE:=Lib.hid ((Ev.refl hI).alloc (.cells #[] 5))
  have hown:OwnV R w.heap.size 5 1 (w.alloc (.cells #[] 5)) (.slice (some ⟨w.heap.size,0,none⟩) 0 0) 0 []:=⟨World.ownsRow_made w #[] 0 (Nat.le_refl _) (Nat.zero_le _) rfl,fun k hk=>by
   simp only[Value.ownBlock,Option.some.injEq] at hk
   exact hI.none_of_ge (by omega)⟩
  have HO:=Lib.hid hown
  have hz0:(bytesV bs).length=bs.length*1:=by rw[bytesV_length,Nat.mul_one]
  have hz3:0+bs.length≤8388608:=by omega
  have hz4:w.heap.size≤(w.alloc (.cells #[] 5)).heap.size:=by simp
  have hz5:∀ q,(w.alloc (.cells #[] 5)).heap.size≤q→R q=none:=fun q hq=>HE.out.inv.none_of_ge hq
  clear hI hv hown
  go_enter Tryz.func40,Tryz.ntmps40
  go_wp2_with (at_builtin;refine wpList_app_row 22 5 1 1 _ Tryz.underlying22 u8_info rfl (by decide) (by decide) (R:=R) (B:=w.heap.size) rfl _ _ rfl HO.out rfl ad bs.length cap (bytesV bs) hz0 rfl hsrc (bytesV_one bs) hz3 hz4 hz5 ?_)
  intro v' w5 ho5 hg5 _
  have HE5:=Lib.hid (HE.out.appV HO.out (Nat.le_refl _) hg5)
  have HO5:=Lib.hid ho5
  obtain⟨a5,c5,rfl,_⟩:=ho5.open
  clear ho5 hg5
  go_wp2_with fail
  go_ret
  exact⟨_,rfl,HE5.out,HO5.out⟩
end
section
open Go.RowKit
set_option linter.unusedVariables false
theorem FreeB.take {R:Reg} {w:World} {a:Option Addr} {cap:Nat} {bs:List Nat} (h:FreeB R w (.slice a bs.length cap) bs) (t:Nat) (ht:t≤bs.length):FreeB R w (.slice a (bs.take t).length cap) (bs.take t):=by
 have hl:(bs.take t).length=t:=by rw[List.length_take];omega
 have hm:bs.length≤maxLen:=by obtain⟨a',cap',e,h1,h2⟩:=h;exact h1
 refine⟨a,cap,rfl,by omega,fun i hi=>?_⟩
 rw[hl] at hi
 obtain⟨b,off,e1,e2,e3,e4⟩:=h.cell (i:=i) (by omega)
 have e:at' (bs.take t) i=at' bs i:=by
  unfold at'
  rw[List.getD_eq_getElem?_getD,List.getD_eq_getElem?_getD,List.getElem?_take,if_pos hi]
 rw[e]
 exact⟨b,off,e1,e2,e3,e4⟩
theorem FreeB.cap {R:Reg} {w:World} {a:Option Addr} {cap:Nat} {bs:List Nat} (h:FreeB R w (.slice a bs.length cap) bs):bs.length≤maxLen:=by
 obtain⟨a',cap',e,h1,h2⟩:=h
 exact h1
theorem FreeB.len_eq {R:Reg} {w:World} {a:Option Addr} {len cap:Nat} {bs:List Nat} (h:FreeB R w (.slice a len cap) bs):len=bs.length:=by
 obtain⟨a',c',e,_⟩:=h
 injection e
theorem IsRow.cap_le {k:IntKind} {w:World} {a:Option Addr} {len cap:Nat} {zs:List Int} (h:IsRow k w a len cap zs):len≤cap:=by
 rcases h with ⟨_,rfl,rfl,_⟩|⟨x,_,h,_⟩
 ·exact Nat.le_refl _
 ·exact h
set_option maxRecDepth 100000 in
set_option maxHeartbeats 1000000 in
theorem cut24_any (R:Reg) (w:World) (hI:Inv R w) (a:Option Addr) (cap:Nat) (bs:List Nat) (hv:FreeB R w (.slice a bs.length cap) bs) (hcap:bs.length≤cap):
  Calls Tryz.prog 28 #[.slice a bs.length cap] w fun e w'=>∃ v,e=.returned v∧Ev R w R w'∧OwnV R w.heap.size 5 1 w' v (bs.take 75).length (bytesV (bs.take 75)):=by
 obtain⟨t,ht⟩:∃ t,min bs.length 75=t:=⟨_,rfl⟩
 have htl:(bs.take 75).length=t:=by rw[List.length_take];omega
 have hC:=bclone_any R w hI a cap (bs.take 75) (by
  have h:=hv.take t (by omega)
  have e:bs.take t=bs.take 75:=by
   rcases Nat.le_total bs.length 75 with h|h
   ·rw[List.take_of_length_le (by omega),List.take_of_length_le h]
   ·rw[show t=75 by omega]
  rw[e] at h
  exact h) (by omega)
 have HC:=Lib.hid hC
 have hmx:=hv.cap
 unfold maxLen at hmx
 obtain⟨n,hn⟩:∃ n,bs.length=n:=⟨_,rfl⟩
 rw[htl] at HC
 rw[hn] at hcap hmx ht ⊢
 rw[htl]
 clear hv hC hI
 rcases Nat.lt_or_ge n 76 with hlt|hge
 ·obtain rfl:t=n:=by omega
  go_enter Tryz.func28,Tryz.ntmps28
  go_wp2_with fail
  refine HC.out.mono ?_
  rintro e w1 ⟨v,rfl,he,ho⟩
  have HE:=Lib.hid he
  have HO:=Lib.hid ho
  clear he ho
  go_wp2_with fail
  go_ret
  exact⟨v,rfl,HE.out,HO.out⟩
 ·obtain rfl:t=75:=by omega
  go_enter Tryz.func28,Tryz.ntmps28
  go_wp2_with fail
  refine HC.out.mono ?_
  rintro e w1 ⟨v,rfl,he,ho⟩
  have HE:=Lib.hid he
  have HO:=Lib.hid ho
  clear he ho
  go_wp2_with fail
  go_ret
  exact⟨v,rfl,HE.out,HO.out⟩
end
end Go.Proofs.YtklkgicjfnbndaaGreat
