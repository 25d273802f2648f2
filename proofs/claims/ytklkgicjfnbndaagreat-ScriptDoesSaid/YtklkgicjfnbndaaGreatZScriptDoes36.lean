/- walk.Of: the walk. -/
import Derived.Test.YtklkgicjfnbndaaGreatZScriptDoes21
import Derived.Test.YtklkgicjfnbndaaGreatZScriptDoes12
import Derived.Test.YtklkgicjfnbndaaGreatZScriptDoes18
namespace Go.Proofs.YtklkgicjfnbndaaGreat
section
open Go.RowKit
set_option linter.unusedVariables false
theorem seen_made {R R0:Reg} {w0:World} {W:World} {B ge gm E V:Nat} {T:TypeId} {p:Value} (he:Ev R0 w0 R W) (hB:B≤w0.heap.size) (h1:OwnI R B 3 W (.slice (some ⟨ge,0,none⟩) E E) (List.replicate E 0)) (h2:OwnV R B 4 1 W (.slice (some ⟨gm,0,none⟩) V V) V (List.replicate V (.bool false)))
  (hne:ge≠gm) (hs:Value) (hhs:hs=.pointer (some ⟨W.heap.size,0,none⟩)):
  ∃ (b g1 g2:Nat) (Rx:Reg),Ev R0 w0 Rx (W.alloc (.cells #[p,.slice (some ⟨ge,0,none⟩) E E,.slice (some ⟨gm,0,none⟩) V V] T)) ∧
   SeenAt Rx B (W.alloc (.cells #[p,.slice (some ⟨ge,0,none⟩) E E,.slice (some ⟨gm,0,none⟩) V V] T)) hs p b g1 g2 (List.replicate E 0) (List.replicate V false):=by
 have l1:=(h1.lt ge rfl).2
 have l2:=(h2.lt gm rfl).2
 have hz:=he.size
 refine⟨W.heap.size,ge,gm,R,he.alloc _,hhs,by omega,he.inv.none_of_ge (Nat.le_refl _),by omega,by omega,hne,⟨T,?_⟩,?_,?_⟩
 ·show (W.heap.push _)[W.heap.size]?=_
  simp
 ·have:=h1.alloc (.cells #[p,.slice (some ⟨ge,0,none⟩) E E,.slice (some ⟨gm,0,none⟩) V V] T)
  simpa using this
 ·have:=h2.alloc (.cells #[p,.slice (some ⟨ge,0,none⟩) E E,.slice (some ⟨gm,0,none⟩) V V] T)
  simpa using this
theorem SeenAt.cells {R:Reg} {B:Nat} {w:World} {vs p:Value} {b ge gm:Nat} {ed:List Int} {mt:List Bool} (h:SeenAt R B w vs p b ge gm ed mt) {v:Nat} (hv:v<mt.length):
  w.cell? ⟨b,2,none⟩=some (.slice (some ⟨gm,0,none⟩) mt.length mt.length)∧w.cell? ⟨gm,v,none⟩=some (.bool (getB mt v))∧w.frozen? ⟨gm,v,none⟩=false∧R gm=none∧B≤gm:=by
 obtain⟨_,_,_,_,_,_,⟨T,hblk⟩,_,hom⟩:=h
 obtain⟨_,e1,hBm,hRm,hcm,hzm⟩:=hom.headAt (i:=v) (by rw[List.length_map];exact hv)
 cases e1
 exact⟨cells_at hblk 2,by rw[hcm,getB_at hv],hzm,hRm,hBm⟩
def stepL (s:List Nat) (V root:Nat) (n:Nat):List (Int × Int):=(List.range n).map fun j=>((wd s V root j:Int),(wk s V root j:Int))
theorem stepL_length (s:List Nat) (V root n:Nat):(stepL s V root n).length=n:=by simp[stepL]
theorem stepL_succ (s:List Nat) (V root n:Nat):stepL s V root (n+1)=stepL s V root n ++ [((wd s V root n:Int),(wk s V root n:Int))]:=by simp[stepL,List.range_succ]
theorem nthS_stepL {s:List Nat} {V root n i:Nat} (h:i<n):nthS (stepL s V root n) i=((wd s V root i:Int),(wk s V root i:Int)):=by
 rw[nthS_get (by rw[stepL_length];exact h)]
 simp[stepL]
theorem bool_info':(Tryz.prog.info? 4).map (fun i=>(i.zero,i.size,i.bytes))=some (some (.bool false),1,1):=by kernel_rfl
def RetSteps (R:Reg) (w:World) (xs:List (Int × Int)) (e:Ending) (w':World):Prop:=
 ∃ R' a c,e=.returned (.tuple #[.slice a xs.length c,.int .i64 0])∧Ev R w R' w'∧OwnV R' w.heap.size 155 2 w' (.slice a xs.length c) xs.length (stepsV xs)
theorem wcnt_succ (s:List Nat) (V root k i:Nat):wcnt s V root k (i+1)=wcnt s V root k i+if wk s V root i=k then 1 else 0:=rfl
theorem SeenAt.kept {R:Reg} {B:Nat} {w w1:World} {row:Option Nat} {vs p:Value} {b ge gm:Nat} {ed:List Int} {mt:List Bool} (h:SeenAt R B w vs p b ge gm ed mt) (hg:w.grownBy w1 row) (hr:∀ k,row=some k→k≠b∧k≠ge∧k≠gm):SeenAt R B w1 vs p b ge gm ed mt:=by
 obtain⟨h1,h2,h3,h4,h5,h6,⟨T,h7⟩,h8,h9⟩:=h
 exact⟨h1,h2,h3,h4,h5,h6,⟨T,(hg.block b (lt_of_block h7) (fun e=>(hr b e.symm).1 rfl)).trans h7⟩,h8.kept hg (Or.inr fun e=>(hr ge e.symm).2.1 rfl),h9.kept hg (Or.inr fun e=>(hr gm e.symm).2.2 rfl)⟩
theorem SeenAt.lt {R:Reg} {B:Nat} {w:World} {vs p:Value} {b ge gm:Nat} {ed:List Int} {mt:List Bool} (h:SeenAt R B w vs p b ge gm ed mt) (h1:0<ed.length) (h2:0<mt.length):
  ge<w.heap.size∧gm<w.heap.size∧B≤ge∧B≤gm∧b<w.heap.size:=by
 obtain⟨_,_,_,_,_,_,⟨_,h7⟩,h8,h9⟩:=h
 have a:=h8.lt ge (by obtain⟨_,e,_⟩:=h8.headAt rfl (i:=0) h1;cases e;rfl)
 have b:=h9.lt gm (by obtain⟨_,e,_⟩:=h9.headAt (i:=0) (by rw[List.length_map];exact h2);cases e;rfl)
 exact⟨a.2,b.2,a.1,b.1,lt_of_block h7⟩
set_option maxRecDepth 100000 in
set_option maxHeartbeats 1000000 in
theorem walk_of (R:Reg) (w:World) (hI:Inv R w) (p:Value) (s:List Nat) (rt:Int) (lone:Nat) (hp:MapAt R p s rt lone) (root:Nat) (hr:root<s.length):
  Calls Tryz.prog 138 #[p,.int .i64 (root:Int)] w (RetSteps R w (stepL s ((sizesL s).length+lone) root (partC' s root))):=by
 obtain⟨hS,hok⟩:=hp.ok hI
 have he2:s.length % 2=0:=hok.1
 have hn:s.length≤131073:=hok.2.1
 have hlone:lone≤65536:=by have:=hok.2.2;omega
 have hzl:=sizesL_le hS
 obtain⟨V,hV⟩:∃ V,(sizesL s).length+lone=V:=⟨_,rfl⟩
 obtain⟨E,hE⟩:∃ V,s.length / 2=V:=⟨_,rfl⟩
 have hEg:=fun R' w' (he:Ev R w R' w')=>edges_any R' w' he.inv p s rt lone (he.map hp)
 have hVs:=fun R' w' (he:Ev R w R' w')=>vertices_any R' w' he.inv p s rt lone (he.map hp)
 rw[show (((sizesL s).length:Int)+(lone:Int))=(V:Int) by omega] at hVs
 rw[hE] at hEg
 have hDt:=darts_any R w hI p s rt lone hp
 have HEg:=Lib.hid hEg
 have HVs:=Lib.hid hVs
 have HDt:=Lib.hid hDt
 have HP:=Lib.hid hp
 have HS:=Lib.hid hS
 have HI:=Lib.hid hI
 have HIn:=Lib.hid (fun i=>winv hS he2 hr (V:=V) (by omega) i)
 have HLn:=Lib.hid (wlen hS he2 hr (V:=V) (by omega))
 have hVb:V≤200000:=by omega
 have hEb:E≤131073:=by omega
 have hrl:(root:Int)<(s.length:Int):=by omega
 obtain⟨i0,hi,hz0,hz1,hz2⟩:=info_parts int_info
 obtain⟨i1,gi,gz0,gz1,gz2⟩:=info_parts bool_info'
 obtain⟨bp,rfl,hbp⟩:=hp
 clear hI hbp hok hEg hVs hDt hzl
 have HEd:=Lib.hid (Ev.refl HI.out).drew
 go_enter Tryz.func138,Tryz.ntmps138
 go_wp2_with (go_at_call 18;refine HDt.out.mono ?_;rintro e w' ⟨rfl,rfl⟩)
 obtain⟨o1,ho1⟩:∃ o,Obj.cells (madeCells #[Value.int .i64 0] (E*1)) 3=o:=⟨_,rfl⟩
 obtain⟨o2,ho2⟩:∃ o,Obj.cells (madeCells #[Value.bool false] (V*1)) 4=o:=⟨_,rfl⟩
 have hms1:=make_eq (n:=E) Tryz.underlying25 hi hz0 hz1 (by rw[hz2];omega) (by unfold maxLen;omega)
 have hms2:=make_eq (n:=V) Tryz.underlying135 gi gz0 gz1 (by rw[gz2];omega) (by unfold maxLen;omega)
 have HO1:=Lib.hid (fun (R1:Reg) (W:World) B hI hB=>rowI_made (R:=R1) (W:=W) (B:=B) (n:=E) hI hB (by unfold maxLen;omega))
 have HO2:=Lib.hid (fun (R1:Reg) (W:World) B hI hB=>rowV_made (R:=R1) (W:=W) (B:=B) (n:=V) (E:=4) (z:=.bool false) hI hB (by unfold maxLen;omega))
 simp only[Value.cells,ho1,ho2] at hms1 hms2 HO1 HO2
 clear ho1 ho2
 have HZ:=Lib.hid HEd.out.size
 have q1:decide ((root:Int)<0)=false:=by simp
 have q2:decide (s.length≤root)=false:=by simp;omega
 simp only[q1,q2,Bool.or_false]
 go_cut [6] (fun s6 wx=>∃ (b ge gm:Nat) (Rx:Reg),Ev R w Rx wx∧SeenAt Rx w.heap.size wx s6 (.pointer (some ⟨bp,0,none⟩)) b ge gm (List.replicate E 0) (List.replicate V false))
 case first=>
  go_region_with (first
   |(go_at_call 21;(first|refine (HEg.out _ _ HEd.out).mono ?_|refine (HEg.out _ _ (HEd.out.alloc _)).mono ?_|refine (HEg.out _ _ ((HEd.out.alloc _).alloc _)).mono ?_);rintro e w' ⟨rfl,rfl⟩)
   |(go_at_call 15;first
      |(refine (HVs.out _ _ HEd.out).mono ?_;rintro e w' ⟨rfl,R',he⟩;have HEd:=Lib.hid (HEd.out.trans he);clear he)
      |(refine (HVs.out _ _ (HEd.out.alloc _)).mono ?_;rintro e w' ⟨rfl,R',he⟩;have HOe:=Lib.hid ((HO1.out R _ w.heap.size HEd.out.inv HEd.out.size).ev he);have HEd:=Lib.hid ((HEd.out.alloc _).trans he);clear he)))
  all_goals (go_wp2_with fail;go_meet)
  all_goals first
   |(refine seen_made (HEd.out.alloc o2) (Nat.le_refl _) (HOe.out.alloc o2) (HO2.out _ _ _ HEd.out.inv HEd.out.size) ?_ _ ?_
     ·have:=(HOe.out.lt _ rfl).2
      intro e
      rw[←e] at this
      exact Nat.lt_irrefl _ this
     ·simp)
   |(refine seen_made ((HEd.out.alloc o1).alloc o2) (Nat.le_refl _) ((HO1.out _ _ _ HEd.out.inv HEd.out.size).alloc o2) ?_ ?_ _ ?_
     ·simpa using HO2.out _ _ _ (HEd.out.alloc o1).inv (HEd.out.alloc o1).size
     ·simp
     ·simp)
   |(refine seen_made ((HEd.out.alloc o2).alloc o1) (Nat.le_refl _) ?_ ((HO2.out _ _ _ HEd.out.inv HEd.out.size).alloc o1) ?_ _ ?_
     ·simpa using HO1.out _ _ _ (HEd.out.alloc o2).inv (HEd.out.alloc o2).size
     ·simp
     ·simp)
 case rest=>
  obtain⟨b,ge,gm,Rx,he,hsn⟩:=hcut
  have HSN:=Lib.hid hsn
  have HEd:=Lib.hid he.drew
  have HEx:=Lib.hid he
  have hrv:=vtx_lt HS.out hr
  obtain⟨v,hv⟩:∃ v,vtx s root=v:=⟨_,rfl⟩
  have HVx:=Lib.hid (fun R' w' (he:Ev R w R' w')=>by
   have:=vertex_any R' w' he.inv _ s rt lone (he.map HP.out) (root:Int)
   rwa [nameI_in hr,vtx_eq HS.out hr,hv] at this)
  rw[hv] at hrv
  have hvV:v<V:=by omega
  obtain⟨rfl,hBb,hRb,hbe,hbm,hem,⟨T,hblk⟩,hoe,hom⟩:=hsn
  obtain⟨wf,hwf⟩:∃ wf,wf=wc:=⟨_,rfl⟩
  subst hwf
  obtain⟨y,hy⟩:∃ y,getB (List.replicate V false) v=y:=⟨_,rfl⟩
  have HCL:Hid (∀ R' w',Ev Rx wf R' w'→w'.cell? ⟨b,2,none⟩=some (.slice (some ⟨gm,0,none⟩) V V)∧w'.cell? ⟨gm,v,none⟩=some (.bool y)∧w'.frozen? ⟨gm,v,none⟩=false∧R' gm=none∧w.heap.size≤gm):=Lib.hid (fun R' w' he=>by
   have h:=(HSN.out.ev he).cells (v:=v) (by simp;omega)
   rwa [hy,List.length_replicate] at h)
  clear hy
  obtain⟨c0,c1,c2,c3,c4⟩:=HCL.out _ _ (Ev.refl HEx.out.inv).drew
  have HEc:=Lib.hid ((Ev.refl HEx.out.inv).drew)
  clear hblk hoe hom he
  go_upto_region 6 with fail
  go_cut [] (fun wx=>∃ Ry,Ev R w Ry wx∧SeenAt Ry w.heap.size wx (.pointer (some ⟨b,0,none⟩)) (.pointer (some ⟨bp,0,none⟩)) b ge gm (List.replicate E 0) ((List.replicate V false).set v true))
  case first=>
   go_region_held3 (fun w'=>w'.cell? ⟨b,2,none⟩=some (.slice (some ⟨gm,0,none⟩) V V)) (first|exact c0|(rw[World.cell?_setCell_other _ _ _ _ (fun e=>hbm (by injection e with e1;first|exact e1|exact e1.symm))];exact c0)) (first|(go_at_call 65;refine (HVx.out _ _ HEd.out).mono ?_;rintro e w' ⟨rfl,R',he⟩;have HEd:=Lib.hid (HEd.out.trans he);have HEc:=Lib.hid (HEc.out.trans he);clear he;obtain⟨c0,c1,c2,c3,c4⟩:=HCL.out _ _ HEc.out))
   all_goals (go_wp2_with fail;go_meet)
   all_goals exact⟨_,HEd.out.setCell (p:=⟨gm,v,none⟩) c4 c3 _,(HSN.out.ev HEc.out).putM v true⟩
  case rest=>
   obtain⟨Ry,he,hsn⟩:=hcut
   obtain⟨w6,hw6⟩:∃ w6,w6=wc:=⟨_,rfl⟩
   subst hw6
   have hE1:0<E:=by omega
   obtain⟨l1,l2,l3,l4,l5⟩:=hsn.lt (by simpa using hE1) (by simp;omega)
   have HS6:=Lib.hid hsn
   have HE6:=Lib.hid he
   have hwl:=HLn.out
   obtain⟨P,hP⟩:∃ P,partC' s root=P:=⟨_,rfl⟩
   rw[hP] at hwl
   obtain⟨hwr,hP0,hmin⟩:=hwl
   have hPb:P≤131073:=by
    rw[←hP];have:=tally_le (Con s root) s.length;unfold partC';omega
   have HBal:=Lib.hid (wbal HS.out he2 hr (V:=V) (by omega)).1
   rw[hP] at HBal
   have HWR:=Lib.hid hwr
   have HMin:=Lib.hid hmin
   clear he hsn c0 c1 c2 HCL HSN hwr hmin HVx HLn
   have HP1:=Lib.hid hP
   clear hP
   go_wp2_with fail
   go_loopg [7,8,9] P (fun g v7 v8 v9 wr=>∃ (j:Nat) (Rj:Reg) (a:Option Addr) (c:Nat),j<P∧P-j≤g∧v7=.slice a j c∧v8=.int .i64 ((wd s V root j:Nat):Int)∧v9=.int .i64 ((wcnt s V root 0 j:Int)-(wcnt s V root 1 j:Int))∧Ev R w Rj wr∧w6.heap.size≤wr.heap.size∧SeenAt Rj w.heap.size wr (.pointer (some ⟨b,0,none⟩)) (.pointer (some ⟨bp,0,none⟩)) b ge gm (wst s V root j).ed (wst s V root j).mt∧OwnV Rj w6.heap.size 155 2 wr (.slice a j c) j (stepsV (stepL s V root j)))
   case atStart=>exact⟨0,Ry,none,0,hP0,by omega,rfl,rfl,by simp[wcnt],HE6.out,Nat.le_refl _,(by have:=HS6.out;rw[←hE,←hv] at this;exact this),OwnV.nil _ _ _ _ _⟩
   case round=>
    obtain⟨j,Rj,a,c,hj,hg,rfl,rfl,rfl,he,hz6,hsn,ho⟩:=hrel
    have hI:=HIn.out j
    obtain⟨st,hst⟩:∃ st,wst s V root j=st:=⟨_,rfl⟩
    obtain⟨d,hdd⟩:∃ d,wd s V root j=d:=⟨_,rfl⟩
    have hsd:st.d=d:=by rw[←hdd];unfold wd;rw[hst]
    have hdl:d<s.length:=by rw[←hdd];exact hI.lt j (Nat.le_refl _)
    have hdb:d<131073:=by omega
    have hel:=hI.edl
    have hml:=hI.mtl
    have hvals:=hI.vals (st.d / 2)
    rw[hst] at hel hml hvals hsn
    have hsk:wkind s st=wk s V root j:=by unfold wk;rw[hst]
    have hK:=kind_any Rj wr he.inv w.heap.size _ _ b ge gm s rt lone (he.map HP.out) st hsn (by rw[hsd];exact hdl) hel (by omega) (by omega) hvals
    rw[hsd] at hK
    have HKd:=Lib.hid hK
    obtain⟨t,ht⟩:∃ t,(wcnt s V root 0 j:Int)-(wcnt s V root 1 j:Int)=t:=⟨_,rfl⟩
    have hc0:=wcnt_le s V root 0 j
    have hc1:=wcnt_le s V root 1 j
    have htb:-131073≤t∧t≤131073:=by omega
    have hk3:=wk_le s V root j
    have HMt:=Lib.hid (fun R' w' (he:Ev R w R' w')=>by
     have:=mate_any R' w' he.inv _ s rt lone (he.map HP.out) d
     rwa [mateI_in hdl] at this)
    have HSg:=Lib.hid (fun R' w' (he:Ev R w R' w') (x:Nat) (hx:x<s.length)=>by
     have:=sigma_any R' w' he.inv _ s rt lone (he.map HP.out) x
     rwa [atI_in hx] at this)
    have HNX:=Lib.hid ((HIn.out (j+1)).lt (j+1) (Nat.le_refl _))
    have HED:Hid ((wst s V root (j+1)).ed=wed s st∧(wst s V root (j+1)).mt=wmt s st):=Lib.hid (by
     have e:wst s V root (j+1)=wnext s (wst s V root j):=rfl
     rw[e,hst];exact⟨rfl,rfl⟩)
    rw[hdd,ht]
    have hkc:wk s V root j=0∨wk s V root j=1∨wk s V root j=2∨wk s V root j=3:=by omega
    clear hI hel hml hvals hK hc0 hc1 hk3
    rcases hkc with hkk|hkk|hkk|hkk
    ·-- kind 0
     have hki:((wkind s st:Nat):Int)=0:=by rw[hsk,hkk];rfl
     have hwn:wd s V root (j+1)=at' s (d ^^^ 1):=by
      have e:wd s V root (j+1)=wdart s (wst s V root j):=rfl
      rw[e,hst];unfold wdart;rw[hsk,hkk,hsd];rfl
     have hT:(wcnt s V root 0 (j+1):Int)-(wcnt s V root 1 (j+1):Int)=t+1:=by
      rw[←ht,wcnt_succ,wcnt_succ,hkk];simp <;> omega
     have hstp:stepL s V root (j+1)=stepL s V root j ++ [((d:Int),0)]:=by rw[stepL_succ,hdd,hkk];rfl
     have HWN:=Lib.hid hwn
     have HTT:=Lib.hid hT
     have HSTP:=Lib.hid hstp
     clear hwn hT hstp
     go_wp2_with fail
     refine HKd.out.mono ?_
     rintro e w1 ⟨R1,rfl,hevp,hsn1⟩
     rw[hki]
     have HE1:=Lib.hid (he.thenP hevp (fun i hi=>by rcases hi with rfl|rfl;exact l3;exact l4))
     have hz1:w6.heap.size≤w1.heap.size:=Nat.le_trans hz6 hevp.size
     have ho1:=(ho.evP hevp (fun i hi=>by rcases hi with rfl|rfl;exact l1;exact l2)).alloc (.cells #[.int .i64 (d:Int),.int .i64 0] 155)
     have HO1:=Lib.hid ho1
     have HE2:=Lib.hid (HE1.out.alloc (.cells #[.int .i64 (d:Int),.int .i64 0] 155))
     have HSN1:=Lib.hid (hsn1.ev ((Ev.refl HE1.out.inv).alloc (.cells #[.int .i64 (d:Int),.int .i64 0] 155)))
     clear ho1 hevp hsn1 ho he hsn hki
     go_wp2_with (at_builtin;refine wpList_app_row 151 155 2 16 _ Tryz.underlying151 step_info rfl (by omega) (by omega) (R:=R1) (B:=w6.heap.size) rfl _ _ rfl HO1.out rfl ⟨w1.heap.size,0,none⟩ 1 1 [.int .i64 (d:Int),.int .i64 0] rfl rfl ?g10 ?g20 ?g30 ?g40 ?g50 ?_)
     case g10=>exact cells_new _ _ _
     case g20=>
      intro u hu
      simp only[List.mem_cons,List.not_mem_nil,or_false] at hu
      rcases hu with rfl|rfl <;> rfl
     case g30=>omega
     case g40=>simp;omega
     case g50=>exact fun q hq=>HE2.out.inv.none_of_ge (by simp at hq ⊢;omega)
     intro v' w5 ho5 hg5 _
     have hz5:w6.heap.size≤w5.heap.size:=Nat.le_trans (by simp;omega) hg5.size
     have HSN5:=Lib.hid (HSN1.out.kept hg5 (fun q hq=>by have:=(HO1.out.lt q hq).1;omega))
     have HE5:=Lib.hid (HE2.out.appV HO1.out (by have:=HE6.out.size;omega) hg5)
     have HO5:=Lib.hid ho5
     clear ho5 hg5
     obtain⟨a6,c6,rfl,_⟩:=HO5.out.open
     go_wp2_with fail
     refine (HMt.out _ _ HE5.out).mono ?_
     rintro e w7 ⟨rfl,rfl⟩
     go_wp2_with fail
     refine (HSg.out _ _ HE5.out (d ^^^ 1) (xor_one_lt he2 hdl)).mono ?_
     rintro e w7 ⟨rfl,rfl⟩
     rw[←HWN.out]
     have hnx:=HNX.out
     obtain⟨nx,hnn⟩:∃ x,wd s V root (j+1)=x:=⟨_,rfl⟩
     rw[hnn] at hnx ⊢
     have HNN:=Lib.hid hnn
     clear hnn
     by_cases hjp:j+1=P
     ·have e1:(nx:Int)=(root:Int):=by rw[←HNN.out,hjp,HWR.out]
      have e2:t+1=0:=by rw[←HTT.out,hjp,HBal.out];omega
      have b1:(t+1 == (0:Int))=true:=by simp;omega
      have b2:((nx:Int) == (root:Int))=true:=by simp[e1]
      go_wp2_with fail
      go_ret2
      have ho:=HO5.out
      have e3:stepsV (stepL s V root j) ++ [.int .i64 (d:Int),.int .i64 0]=stepsV (stepL s V root (partC' s root)):=by rw[HP1.out,←hjp,HSTP.out,stepsV_append];rfl
      rw[e3] at ho
      have e4:(stepL s ((sizesL s).length+lone) root (partC' s root)).length=P:=by rw[stepL_length,HP1.out]
      rw[hjp] at ho
      exact⟨R1,a6,c6,by rw[e4];rfl,HE5.out,by rw[e4,hV];exact ho.mono HE6.out.size⟩
     ·have hne:=HMin.out (j+1) (by omega) (by omega)
      rw[HNN.out] at hne
      have b2:((nx:Int) == (root:Int))=false:=by simp;omega
      by_cases ht1:t+1=0
      ·have b1:(t+1 == (0:Int))=true:=by simp;omega
       go_wp2_with fail
       go_roundg (P-(j+1))
       case measure=>omega
       case rel=>exact⟨j+1,R1,a6,c6,by omega,by omega,rfl,by rw[HNN.out],(congrArg (Value.int .i64) (by have:=HTT.out;omega)),HE5.out,hz5,by rw[HED.out.1,HED.out.2];exact HSN5.out,by have ho:=HO5.out;rw[HSTP.out,stepsV_append];exact ho⟩
      ·have b1:(t+1 == (0:Int))=false:=by simp;omega
       go_wp2_with fail
       go_roundg (P-(j+1))
       case measure=>omega
       case rel=>exact⟨j+1,R1,a6,c6,by omega,by omega,rfl,by rw[HNN.out],(congrArg (Value.int .i64) (by have:=HTT.out;omega)),HE5.out,hz5,by rw[HED.out.1,HED.out.2];exact HSN5.out,by have ho:=HO5.out;rw[HSTP.out,stepsV_append];exact ho⟩
    ·-- kind 1
     have hki:((wkind s st:Nat):Int)=1:=by rw[hsk,hkk];rfl
     have hwn:wd s V root (j+1)=at' s (d ^^^ 1):=by
      have e:wd s V root (j+1)=wdart s (wst s V root j):=rfl
      rw[e,hst];unfold wdart;rw[hsk,hkk,hsd];rfl
     have hT:(wcnt s V root 0 (j+1):Int)-(wcnt s V root 1 (j+1):Int)=t-1:=by
      rw[←ht,wcnt_succ,wcnt_succ,hkk];simp <;> omega
     have hstp:stepL s V root (j+1)=stepL s V root j ++ [((d:Int),1)]:=by rw[stepL_succ,hdd,hkk];rfl
     have HWN:=Lib.hid hwn
     have HTT:=Lib.hid hT
     have HSTP:=Lib.hid hstp
     clear hwn hT hstp
     go_wp2_with fail
     refine HKd.out.mono ?_
     rintro e w1 ⟨R1,rfl,hevp,hsn1⟩
     rw[hki]
     have HE1:=Lib.hid (he.thenP hevp (fun i hi=>by rcases hi with rfl|rfl;exact l3;exact l4))
     have hz1:w6.heap.size≤w1.heap.size:=Nat.le_trans hz6 hevp.size
     have ho1:=(ho.evP hevp (fun i hi=>by rcases hi with rfl|rfl;exact l1;exact l2)).alloc (.cells #[.int .i64 (d:Int),.int .i64 1] 155)
     have HO1:=Lib.hid ho1
     have HE2:=Lib.hid (HE1.out.alloc (.cells #[.int .i64 (d:Int),.int .i64 1] 155))
     have HSN1:=Lib.hid (hsn1.ev ((Ev.refl HE1.out.inv).alloc (.cells #[.int .i64 (d:Int),.int .i64 1] 155)))
     clear ho1 hevp hsn1 ho he hsn hki
     go_wp2_with (at_builtin;refine wpList_app_row 151 155 2 16 _ Tryz.underlying151 step_info rfl (by omega) (by omega) (R:=R1) (B:=w6.heap.size) rfl _ _ rfl HO1.out rfl ⟨w1.heap.size,0,none⟩ 1 1 [.int .i64 (d:Int),.int .i64 1] rfl rfl ?g11 ?g21 ?g31 ?g41 ?g51 ?_)
     case g11=>exact cells_new _ _ _
     case g21=>
      intro u hu
      simp only[List.mem_cons,List.not_mem_nil,or_false] at hu
      rcases hu with rfl|rfl <;> rfl
     case g31=>omega
     case g41=>simp;omega
     case g51=>exact fun q hq=>HE2.out.inv.none_of_ge (by simp at hq ⊢;omega)
     intro v' w5 ho5 hg5 _
     have hz5:w6.heap.size≤w5.heap.size:=Nat.le_trans (by simp;omega) hg5.size
     have HSN5:=Lib.hid (HSN1.out.kept hg5 (fun q hq=>by have:=(HO1.out.lt q hq).1;omega))
     have HE5:=Lib.hid (HE2.out.appV HO1.out (by have:=HE6.out.size;omega) hg5)
     have HO5:=Lib.hid ho5
     clear ho5 hg5
     obtain⟨a6,c6,rfl,_⟩:=HO5.out.open
     go_wp2_with fail
     refine (HMt.out _ _ HE5.out).mono ?_
     rintro e w7 ⟨rfl,rfl⟩
     go_wp2_with fail
     refine (HSg.out _ _ HE5.out (d ^^^ 1) (xor_one_lt he2 hdl)).mono ?_
     rintro e w7 ⟨rfl,rfl⟩
     rw[←HWN.out]
     have hnx:=HNX.out
     obtain⟨nx,hnn⟩:∃ x,wd s V root (j+1)=x:=⟨_,rfl⟩
     rw[hnn] at hnx ⊢
     have HNN:=Lib.hid hnn
     clear hnn
     by_cases hjp:j+1=P
     ·have e1:(nx:Int)=(root:Int):=by rw[←HNN.out,hjp,HWR.out]
      have e2:t-1=0:=by rw[←HTT.out,hjp,HBal.out];omega
      have b1:(t-1 == (0:Int))=true:=by simp;omega
      have b1':(t+-1 == (0:Int))=true:=by simp;omega
      have b2:((nx:Int) == (root:Int))=true:=by simp[e1]
      go_wp2_with fail
      go_ret2
      have ho:=HO5.out
      have e3:stepsV (stepL s V root j) ++ [.int .i64 (d:Int),.int .i64 1]=stepsV (stepL s V root (partC' s root)):=by rw[HP1.out,←hjp,HSTP.out,stepsV_append];rfl
      rw[e3] at ho
      have e4:(stepL s ((sizesL s).length+lone) root (partC' s root)).length=P:=by rw[stepL_length,HP1.out]
      rw[hjp] at ho
      exact⟨R1,a6,c6,by rw[e4];rfl,HE5.out,by rw[e4,hV];exact ho.mono HE6.out.size⟩
     ·have hne:=HMin.out (j+1) (by omega) (by omega)
      rw[HNN.out] at hne
      have b2:((nx:Int) == (root:Int))=false:=by simp;omega
      by_cases ht1:t-1=0
      ·have b1:(t-1 == (0:Int))=true:=by simp;omega
       have b1':(t+-1 == (0:Int))=true:=by simp;omega
       go_wp2_with fail
       go_roundg (P-(j+1))
       case measure=>omega
       case rel=>exact⟨j+1,R1,a6,c6,by omega,by omega,rfl,by rw[HNN.out],(congrArg (Value.int .i64) (by have:=HTT.out;omega)),HE5.out,hz5,by rw[HED.out.1,HED.out.2];exact HSN5.out,by have ho:=HO5.out;rw[HSTP.out,stepsV_append];exact ho⟩
      ·have b1:(t-1 == (0:Int))=false:=by simp;omega
       have b1':(t+-1 == (0:Int))=false:=by simp;omega
       go_wp2_with fail
       go_roundg (P-(j+1))
       case measure=>omega
       case rel=>exact⟨j+1,R1,a6,c6,by omega,by omega,rfl,by rw[HNN.out],(congrArg (Value.int .i64) (by have:=HTT.out;omega)),HE5.out,hz5,by rw[HED.out.1,HED.out.2];exact HSN5.out,by have ho:=HO5.out;rw[HSTP.out,stepsV_append];exact ho⟩
    ·-- kind 2
     have hki:((wkind s st:Nat):Int)=2:=by rw[hsk,hkk];rfl
     have hwn:wd s V root (j+1)=at' s d:=by
      have e:wd s V root (j+1)=wdart s (wst s V root j):=rfl
      rw[e,hst];unfold wdart;rw[hsk,hkk,hsd];rfl
     have hT:(wcnt s V root 0 (j+1):Int)-(wcnt s V root 1 (j+1):Int)=t:=by
      rw[←ht,wcnt_succ,wcnt_succ,hkk];simp <;> omega
     have hstp:stepL s V root (j+1)=stepL s V root j ++ [((d:Int),2)]:=by rw[stepL_succ,hdd,hkk];rfl
     have HWN:=Lib.hid hwn
     have HTT:=Lib.hid hT
     have HSTP:=Lib.hid hstp
     clear hwn hT hstp
     go_wp2_with fail
     refine HKd.out.mono ?_
     rintro e w1 ⟨R1,rfl,hevp,hsn1⟩
     rw[hki]
     have HE1:=Lib.hid (he.thenP hevp (fun i hi=>by rcases hi with rfl|rfl;exact l3;exact l4))
     have hz1:w6.heap.size≤w1.heap.size:=Nat.le_trans hz6 hevp.size
     have ho1:=(ho.evP hevp (fun i hi=>by rcases hi with rfl|rfl;exact l1;exact l2)).alloc (.cells #[.int .i64 (d:Int),.int .i64 2] 155)
     have HO1:=Lib.hid ho1
     have HE2:=Lib.hid (HE1.out.alloc (.cells #[.int .i64 (d:Int),.int .i64 2] 155))
     have HSN1:=Lib.hid (hsn1.ev ((Ev.refl HE1.out.inv).alloc (.cells #[.int .i64 (d:Int),.int .i64 2] 155)))
     clear ho1 hevp hsn1 ho he hsn hki
     go_wp2_with (at_builtin;refine wpList_app_row 151 155 2 16 _ Tryz.underlying151 step_info rfl (by omega) (by omega) (R:=R1) (B:=w6.heap.size) rfl _ _ rfl HO1.out rfl ⟨w1.heap.size,0,none⟩ 1 1 [.int .i64 (d:Int),.int .i64 2] rfl rfl ?g12 ?g22 ?g32 ?g42 ?g52 ?_)
     case g12=>exact cells_new _ _ _
     case g22=>
      intro u hu
      simp only[List.mem_cons,List.not_mem_nil,or_false] at hu
      rcases hu with rfl|rfl <;> rfl
     case g32=>omega
     case g42=>simp;omega
     case g52=>exact fun q hq=>HE2.out.inv.none_of_ge (by simp at hq ⊢;omega)
     intro v' w5 ho5 hg5 _
     have hz5:w6.heap.size≤w5.heap.size:=Nat.le_trans (by simp;omega) hg5.size
     have HSN5:=Lib.hid (HSN1.out.kept hg5 (fun q hq=>by have:=(HO1.out.lt q hq).1;omega))
     have HE5:=Lib.hid (HE2.out.appV HO1.out (by have:=HE6.out.size;omega) hg5)
     have HO5:=Lib.hid ho5
     clear ho5 hg5
     obtain⟨a6,c6,rfl,_⟩:=HO5.out.open
     go_wp2_with fail
     refine (HSg.out _ _ HE5.out d hdl).mono ?_
     rintro e w7 ⟨rfl,rfl⟩
     rw[←HWN.out]
     have hnx:=HNX.out
     obtain⟨nx,hnn⟩:∃ x,wd s V root (j+1)=x:=⟨_,rfl⟩
     rw[hnn] at hnx ⊢
     have HNN:=Lib.hid hnn
     clear hnn
     by_cases hjp:j+1=P
     ·have e1:(nx:Int)=(root:Int):=by rw[←HNN.out,hjp,HWR.out]
      have e2:t=0:=by rw[←HTT.out,hjp,HBal.out];omega
      have b1:(t == (0:Int))=true:=by simp;omega
      have b2:((nx:Int) == (root:Int))=true:=by simp[e1]
      go_wp2_with fail
      go_ret2
      have ho:=HO5.out
      have e3:stepsV (stepL s V root j) ++ [.int .i64 (d:Int),.int .i64 2]=stepsV (stepL s V root (partC' s root)):=by rw[HP1.out,←hjp,HSTP.out,stepsV_append];rfl
      rw[e3] at ho
      have e4:(stepL s ((sizesL s).length+lone) root (partC' s root)).length=P:=by rw[stepL_length,HP1.out]
      rw[hjp] at ho
      exact⟨R1,a6,c6,by rw[e4];rfl,HE5.out,by rw[e4,hV];exact ho.mono HE6.out.size⟩
     ·have hne:=HMin.out (j+1) (by omega) (by omega)
      rw[HNN.out] at hne
      have b2:((nx:Int) == (root:Int))=false:=by simp;omega
      by_cases ht1:t=0
      ·have b1:(t == (0:Int))=true:=by simp;omega
       go_wp2_with fail
       go_roundg (P-(j+1))
       case measure=>omega
       case rel=>exact⟨j+1,R1,a6,c6,by omega,by omega,rfl,by rw[HNN.out],(congrArg (Value.int .i64) (by have:=HTT.out;omega)),HE5.out,hz5,by rw[HED.out.1,HED.out.2];exact HSN5.out,by have ho:=HO5.out;rw[HSTP.out,stepsV_append];exact ho⟩
      ·have b1:(t == (0:Int))=false:=by simp;omega
       go_wp2_with fail
       go_roundg (P-(j+1))
       case measure=>omega
       case rel=>exact⟨j+1,R1,a6,c6,by omega,by omega,rfl,by rw[HNN.out],(congrArg (Value.int .i64) (by have:=HTT.out;omega)),HE5.out,hz5,by rw[HED.out.1,HED.out.2];exact HSN5.out,by have ho:=HO5.out;rw[HSTP.out,stepsV_append];exact ho⟩
    ·-- kind 3
     have hki:((wkind s st:Nat):Int)=3:=by rw[hsk,hkk];rfl
     have hwn:wd s V root (j+1)=at' s d:=by
      have e:wd s V root (j+1)=wdart s (wst s V root j):=rfl
      rw[e,hst];unfold wdart;rw[hsk,hkk,hsd];rfl
     have hT:(wcnt s V root 0 (j+1):Int)-(wcnt s V root 1 (j+1):Int)=t:=by
      rw[←ht,wcnt_succ,wcnt_succ,hkk];simp <;> omega
     have hstp:stepL s V root (j+1)=stepL s V root j ++ [((d:Int),3)]:=by rw[stepL_succ,hdd,hkk];rfl
     have HWN:=Lib.hid hwn
     have HTT:=Lib.hid hT
     have HSTP:=Lib.hid hstp
     clear hwn hT hstp
     go_wp2_with fail
     refine HKd.out.mono ?_
     rintro e w1 ⟨R1,rfl,hevp,hsn1⟩
     rw[hki]
     have HE1:=Lib.hid (he.thenP hevp (fun i hi=>by rcases hi with rfl|rfl;exact l3;exact l4))
     have hz1:w6.heap.size≤w1.heap.size:=Nat.le_trans hz6 hevp.size
     have ho1:=(ho.evP hevp (fun i hi=>by rcases hi with rfl|rfl;exact l1;exact l2)).alloc (.cells #[.int .i64 (d:Int),.int .i64 3] 155)
     have HO1:=Lib.hid ho1
     have HE2:=Lib.hid (HE1.out.alloc (.cells #[.int .i64 (d:Int),.int .i64 3] 155))
     have HSN1:=Lib.hid (hsn1.ev ((Ev.refl HE1.out.inv).alloc (.cells #[.int .i64 (d:Int),.int .i64 3] 155)))
     clear ho1 hevp hsn1 ho he hsn hki
     go_wp2_with (at_builtin;refine wpList_app_row 151 155 2 16 _ Tryz.underlying151 step_info rfl (by omega) (by omega) (R:=R1) (B:=w6.heap.size) rfl _ _ rfl HO1.out rfl ⟨w1.heap.size,0,none⟩ 1 1 [.int .i64 (d:Int),.int .i64 3] rfl rfl ?g13 ?g23 ?g33 ?g43 ?g53 ?_)
     case g13=>exact cells_new _ _ _
     case g23=>
      intro u hu
      simp only[List.mem_cons,List.not_mem_nil,or_false] at hu
      rcases hu with rfl|rfl <;> rfl
     case g33=>omega
     case g43=>simp;omega
     case g53=>exact fun q hq=>HE2.out.inv.none_of_ge (by simp at hq ⊢;omega)
     intro v' w5 ho5 hg5 _
     have hz5:w6.heap.size≤w5.heap.size:=Nat.le_trans (by simp;omega) hg5.size
     have HSN5:=Lib.hid (HSN1.out.kept hg5 (fun q hq=>by have:=(HO1.out.lt q hq).1;omega))
     have HE5:=Lib.hid (HE2.out.appV HO1.out (by have:=HE6.out.size;omega) hg5)
     have HO5:=Lib.hid ho5
     clear ho5 hg5
     obtain⟨a6,c6,rfl,_⟩:=HO5.out.open
     go_wp2_with fail
     refine (HSg.out _ _ HE5.out d hdl).mono ?_
     rintro e w7 ⟨rfl,rfl⟩
     rw[←HWN.out]
     have hnx:=HNX.out
     obtain⟨nx,hnn⟩:∃ x,wd s V root (j+1)=x:=⟨_,rfl⟩
     rw[hnn] at hnx ⊢
     have HNN:=Lib.hid hnn
     clear hnn
     by_cases hjp:j+1=P
     ·have e1:(nx:Int)=(root:Int):=by rw[←HNN.out,hjp,HWR.out]
      have e2:t=0:=by rw[←HTT.out,hjp,HBal.out];omega
      have b1:(t == (0:Int))=true:=by simp;omega
      have b2:((nx:Int) == (root:Int))=true:=by simp[e1]
      go_wp2_with fail
      go_ret2
      have ho:=HO5.out
      have e3:stepsV (stepL s V root j) ++ [.int .i64 (d:Int),.int .i64 3]=stepsV (stepL s V root (partC' s root)):=by rw[HP1.out,←hjp,HSTP.out,stepsV_append];rfl
      rw[e3] at ho
      have e4:(stepL s ((sizesL s).length+lone) root (partC' s root)).length=P:=by rw[stepL_length,HP1.out]
      rw[hjp] at ho
      exact⟨R1,a6,c6,by rw[e4];rfl,HE5.out,by rw[e4,hV];exact ho.mono HE6.out.size⟩
     ·have hne:=HMin.out (j+1) (by omega) (by omega)
      rw[HNN.out] at hne
      have b2:((nx:Int) == (root:Int))=false:=by simp;omega
      by_cases ht1:t=0
      ·have b1:(t == (0:Int))=true:=by simp;omega
       go_wp2_with fail
       go_roundg (P-(j+1))
       case measure=>omega
       case rel=>exact⟨j+1,R1,a6,c6,by omega,by omega,rfl,by rw[HNN.out],(congrArg (Value.int .i64) (by have:=HTT.out;omega)),HE5.out,hz5,by rw[HED.out.1,HED.out.2];exact HSN5.out,by have ho:=HO5.out;rw[HSTP.out,stepsV_append];exact ho⟩
      ·have b1:(t == (0:Int))=false:=by simp;omega
       go_wp2_with fail
       go_roundg (P-(j+1))
       case measure=>omega
       case rel=>exact⟨j+1,R1,a6,c6,by omega,by omega,rfl,by rw[HNN.out],(congrArg (Value.int .i64) (by have:=HTT.out;omega)),HE5.out,hz5,by rw[HED.out.1,HED.out.2];exact HSN5.out,by have ho:=HO5.out;rw[HSTP.out,stepsV_append];exact ho⟩
end
section
set_option linter.unusedVariables false
def opL (L:List Int) (i:Nat):Bool:=decide (nth L i=1)
def mateL (op:Nat→Bool) (n i:Nat):List Int:=(List.range n).map fun j=>(((stk op i).2 j:Nat):Int)
def stackL (op:Nat→Bool) (i:Nat):List Int:=toI (stk op i).1.reverse
theorem mateL_length (op:Nat→Bool) (n i:Nat):(mateL op n i).length=n:=by simp[mateL]
theorem mateL_nth {op:Nat→Bool} {n i j:Nat} (h:j<n):nth (mateL op n i) j=(((stk op i).2 j:Nat):Int):=by
 simp[mateL,nth,h]
theorem mateL_zero (op:Nat→Bool) (n:Nat):mateL op n 0=List.replicate n 0:=by
 refine List.ext_getElem (by simp[mateL]) fun i h1 h2=>?_
 simp[mateL,stk]
theorem mateL_open {op:Nat→Bool} {n i:Nat} (h:op i=true):mateL op n (i+1)=mateL op n i:=by
 unfold mateL;rw[stk_open h]
theorem nth_set_if (xs:List Int) (i j:Nat) (y:Int) (hj:j<xs.length):nth (xs.set i y) j=if i=j then y else nth xs j:=by
 by_cases h:i=j
 ·subst h
  simp[nth,hj]
 ·simp[nth,h]
theorem mateL_close {op:Nat→Bool} {n i o:Nat} {r:List Nat} (h:op i=false) (hs:(stk op i).1=o :: r):mateL op n (i+1)=((mateL op n i).set i (o:Int)).set o (i:Int):=by
 refine ext_nth (by simp[mateL_length]) fun j hj=>?_
 rw[mateL_length] at hj
 rw[mateL_nth hj,stk_close h hs,nth_set_if _ _ _ _ (by rw[List.length_set,mateL_length];exact hj),nth_set_if _ _ _ _ (by rw[mateL_length];exact hj),mateL_nth hj]
 show (((if j=o then i else if j=i then o else (stk op i).2 j:Nat)):Int)=_
 by_cases h1:j=o
 ·rw[if_pos h1,if_pos h1.symm]
 ·have h1':¬ o=j:=fun e=>h1 e.symm
  by_cases h2:j=i
  ·subst h2;simp[h1,h1']
  ·have h2':¬ i=j:=fun e=>h2 e.symm
   simp[h1,h1',h2,h2']
theorem stackL_open {op:Nat→Bool} {i:Nat} (h:op i=true):stackL op (i+1)=stackL op i ++ [(i:Int)]:=by
 unfold stackL;rw[stk_open h];simp[toI]
theorem stackL_close {op:Nat→Bool} {i o:Nat} {r:List Nat} (h:op i=false) (hs:(stk op i).1=o :: r):stackL op i=stackL op (i+1) ++ [(o:Int)]:=by
 unfold stackL;rw[stk_close h hs,hs];simp[toI]
theorem stk_height (op:Nat→Bool):∀ i,(stk op i).1.length≤i
 | 0=>Nat.le_refl _
 | i+1=>by
  have h:=stk_height op i
  cases ho:op i with
  | true=>rw[stk_open ho];simp;omega
  | false=>
   cases hs:(stk op i).1 with
   | nil=>
    show ((if op i=true then _ else _:List Nat × (Nat→Nat))).1.length≤_
    rw[if_neg (by simp[ho]),hs]
    simp
   | cons o r=>
    rw[stk_close ho hs]
    rw[hs] at h
    simp at h ⊢
    omega
theorem stackL_length (op:Nat→Bool) (i:Nat):(stackL op i).length≤i:=by
 have:=stk_height op i
 simp[stackL,toI]
 exact this
end
section
open Go.RowKit
set_option linter.unusedVariables false
def RetMates (R:Reg) (w:World) (xs:List Int) (n:Nat) (e:Ending) (w':World):Prop:=
 ∃ a c v,e=.returned (.tuple #[.slice a n c,v])∧Ev R w R w'∧OwnI R w.heap.size 3 w' (.slice a n c) xs
theorem last_app (xs:List Int) (y:Int):nth (xs ++ [y]) xs.length=y:=by simp[nth]
theorem cell_new {w:World} {g:Nat} (hg:w.heap.size=g) (v:Value) (E:TypeId):(w.alloc (.cells #[v] E)).cell? ⟨g,0,none⟩=some v:=by
 subst hg;simp
structure M3 (R:Reg) (w0 w:World) (a6:Option Addr) (l6 c6:Nat) (S M Y:List Int) (g4 g5 n:Nat):Prop where
 ev:Ev R w0 R w
 st:OwnI R w0.heap.size 3 w (.slice a6 l6 c6) S
 m4:OwnI R w0.heap.size 3 w (.slice (some ⟨g4,0,none⟩) n n) M
 m5:OwnI R w0.heap.size 3 w (.slice (some ⟨g5,0,none⟩) n n) Y
 l4:M.length=n
 l5:Y.length=n
 ne:g4≠g5
 ds:∀ k,(Value.slice a6 l6 c6).ownBlock=some k→k≠g4∧k≠g5
theorem M3.put5 {R:Reg} {w0 w:World} {a6:Option Addr} {l6 c6:Nat} {S M Y:List Int} {g4 g5 n:Nat} (h:M3 R w0 w a6 l6 c6 S M Y g4 g5 n) {i:Nat} (hi:i<n) (y:Int):M3 R w0 (w.setCell ⟨g5,i,none⟩ (.int .i64 y)) a6 l6 c6 S M (Y.set i y) g4 g5 n where
 ev:=h.ev.setCell (h.m5.lt g5 rfl).1 (h.m5.2 g5 rfl) _
 st:=h.st.setCell (fun e=>(h.ds _ e).2 rfl) _
 m4:=h.m4.setCell (fun e=>h.ne (by simpa [Value.ownBlock] using e)) _
 m5:=h.m5.put h.l5 i hi y
 l4:=h.l4
 l5:=by rw[List.length_set];exact h.l5
 ne:=h.ne
 ds:=h.ds
theorem M3.put4 {R:Reg} {w0 w:World} {a6:Option Addr} {l6 c6:Nat} {S M Y:List Int} {g4 g5 n:Nat} (h:M3 R w0 w a6 l6 c6 S M Y g4 g5 n) {i:Nat} (hi:i<n) (y:Int):M3 R w0 (w.setCell ⟨g4,i,none⟩ (.int .i64 y)) a6 l6 c6 S (M.set i y) Y g4 g5 n where
 ev:=h.ev.setCell (h.m4.lt g4 rfl).1 (h.m4.2 g4 rfl) _
 st:=h.st.setCell (fun e=>(h.ds _ e).1 rfl) _
 m4:=h.m4.put h.l4 i hi y
 m5:=h.m5.setCell (fun e=>h.ne (by simpa [Value.ownBlock] using e.symm)) _
 l4:=by rw[List.length_set];exact h.l4
 l5:=h.l5
 ne:=h.ne
 ds:=h.ds
theorem M3.alloc {R:Reg} {w0 w:World} {a6:Option Addr} {l6 c6:Nat} {S M Y:List Int} {g4 g5 n:Nat} (h:M3 R w0 w a6 l6 c6 S M Y g4 g5 n) (o:Obj):M3 R w0 (w.alloc o) a6 l6 c6 S M Y g4 g5 n where
 ev:=h.ev.alloc o
 st:=h.st.alloc o
 m4:=h.m4.alloc o
 m5:=h.m5.alloc o
 l4:=h.l4
 l5:=h.l5
 ne:=h.ne
 ds:=h.ds
theorem M3.pop {R:Reg} {w0 w:World} {a6:Option Addr} {l6 c6:Nat} {S M Y:List Int} {g4 g5 n:Nat} {y:Int} (h:M3 R w0 w a6 l6 c6 (S ++ [y]) M Y g4 g5 n):M3 R w0 w a6 (l6-1) c6 S M Y g4 g5 n where
 ev:=h.ev
 st:=h.st.pop
 m4:=h.m4
 m5:=h.m5
 l4:=h.l4
 l5:=h.l5
 ne:=h.ne
 ds:=fun k e=>by
  cases a6 with
  | none=>cases e
  | some a=>exact h.ds k e
theorem M3.app {R:Reg} {w0 w w1:World} {a6:Option Addr} {l6 c6:Nat} {S S1 M Y:List Int} {g4 g5 n:Nat} (h:M3 R w0 w a6 l6 c6 S M Y g4 g5 n) {a8:Option Addr} {l8 c8:Nat} (ho:OwnI R w0.heap.size 3 w1 (.slice a8 l8 c8) S1) (hg:w.grownBy w1 (Value.slice a6 l6 c6).ownBlock) (hs:∀ k,(Value.slice a8 l8 c8).ownBlock=some k→(Value.slice a6 l6 c6).ownBlock=some k∨w.heap.size≤k):M3 R w0 w1 a8 l8 c8 S1 M Y g4 g5 n where
 ev:=h.ev.app h.st (Nat.le_refl _) hg
 st:=ho
 m4:=h.m4.kept hg (Or.inr fun e=>(h.ds _ e.symm).1 rfl)
 m5:=h.m5.kept hg (Or.inr fun e=>(h.ds _ e.symm).2 rfl)
 l4:=h.l4
 l5:=h.l5
 ne:=h.ne
 ds:=fun k e=>by
  rcases hs k e with e|e
  ·exact h.ds k e
  ·have h4:=(h.m4.lt g4 rfl).2
   have h5:=(h.m5.lt g5 rfl).2
   omega
theorem M3.at4 {R:Reg} {w0 w:World} {a6:Option Addr} {l6 c6:Nat} {S M Y:List Int} {g4 g5 n:Nat} (h:M3 R w0 w a6 l6 c6 S M Y g4 g5 n) {i:Nat} (hi:i<n):w.cell? ⟨g4,i,none⟩=some (.int .i64 (nth M i))∧w.frozen? ⟨g4,i,none⟩=false:=by
 obtain⟨_,e,_,_,h1,h2⟩:=h.m4.headAt h.l4 hi
 cases e
 exact⟨h1,h2⟩
theorem M3.at5 {R:Reg} {w0 w:World} {a6:Option Addr} {l6 c6:Nat} {S M Y:List Int} {g4 g5 n:Nat} (h:M3 R w0 w a6 l6 c6 S M Y g4 g5 n) {i:Nat} (hi:i<n):w.cell? ⟨g5,i,none⟩=some (.int .i64 (nth Y i))∧w.frozen? ⟨g5,i,none⟩=false:=by
 obtain⟨_,e,_,_,h1,h2⟩:=h.m5.headAt h.l5 hi
 cases e
 exact⟨h1,h2⟩
theorem M3.top {R:Reg} {w0 w:World} {a6:Option Addr} {l6 c6:Nat} {S M Y:List Int} {y:Int} {g4 g5 n:Nat} (h:M3 R w0 w a6 l6 c6 (S ++ [y]) M Y g4 g5 n):∃ m g6,l6=m+1∧S.length=m∧a6=some ⟨g6,0,none⟩∧m+1≤c6∧g6≠g4∧g6≠g5∧w.cell? ⟨g6,m,none⟩=some (.int .i64 y):=by
 have hl:=h.st.ints.length_eq
 have hl:l6=S.length+1:=by rw[hl];simp
 obtain⟨g,e,_,_,h1,_⟩:=h.st.headAt (i:=S.length) (by rw[hl];simp) (by omega)
 rw[last_app] at h1
 subst e
 obtain⟨a',cap',e,hc,_⟩:=h.st.ints
 cases e
 exact⟨S.length,g,hl,rfl,rfl,by simp at hc;omega,(h.ds g rfl).1,(h.ds g rfl).2,h1⟩
set_option maxRecDepth 100000 in
set_option maxHeartbeats 2000000 in
theorem r3mates_any (R:Reg) (w:World) (hI:Inv R w) (v:Value) (L:List Int) (hv:FreeI R w v L) (hn:L.length≤1000000) (op:Nat→Bool) (hop:∀ i,i<L.length→(op i=true↔nth L i=1)) (hne:∀ i,i<L.length→op i=false→(stk op i).1≠[]):
  Calls Tryz.prog 151 #[v] w (RetMates R w (mateL op L.length L.length) L.length):=by
 obtain⟨a0,cap0,rfl,hv⟩:=hv.open
 obtain⟨n,hl⟩:∃ n,L.length=n:=⟨_,rfl⟩
 rw[hl] at hv hop hne hn ⊢
 have HL:=Lib.hid hl
 have HV:=Lib.hid hv
 have HOp:=Lib.hid hop
 have HNe:=Lib.hid hne
 have HI:=Lib.hid hI
 obtain⟨i0,hi,hz0,hz1,hz2⟩:=info_parts int_info
 clear hl hv hop hI hne
 go_enter Tryz.func151,Tryz.ntmps151
 go_wp2_with fail
 obtain⟨o1,ho1⟩:∃ o,Obj.cells (madeCells #[Value.int .i64 0] (n*1)) 3=o:=⟨_,rfl⟩
 have hms1:=make_eq (n:=n) Tryz.underlying25 hi hz0 hz1 (by rw[hz2];omega) (by unfold maxLen;omega)
 have HO1:=Lib.hid (fun (W:World) hI hB=>rowI_made (R:=R) (W:=W) (B:=w.heap.size) (n:=n) hI hB (by unfold maxLen;omega))
 simp only[Value.cells,ho1] at hms1 HO1
 clear ho1
 have HE0:=Lib.hid (Ev.refl HI.out)
 go_cut [4,5] (fun s4 s5 wx=>∃ g4 g5,s4=.slice (some ⟨g4,0,none⟩) n n∧s5=.slice (some ⟨g5,0,none⟩) n n∧g4≠g5∧Ev R w R wx∧OwnI R w.heap.size 3 wx (.slice (some ⟨g4,0,none⟩) n n) (List.replicate n 0)∧OwnI R w.heap.size 3 wx (.slice (some ⟨g5,0,none⟩) n n) (List.replicate n 0))
 case first=>
  go_region_with fail
  all_goals (go_wp2_with fail;go_meet)
  all_goals first
   |(refine⟨_,_,rfl,rfl,?_,((HE0.out.alloc o1).alloc o1).drew,((HO1.out _ HE0.out.inv HE0.out.size).alloc o1).drew,?_⟩
     ·simp
     ·have:=(HO1.out _ (HE0.out.alloc o1).inv (HE0.out.alloc o1).size).drew
      simpa using this)
   |(refine⟨_,_,rfl,rfl,?_,((HE0.out.alloc o1).alloc o1).drew,?_,((HO1.out _ HE0.out.inv HE0.out.size).alloc o1).drew⟩
     ·simp
     ·have:=(HO1.out _ (HE0.out.alloc o1).inv (HE0.out.alloc o1).size).drew
      simpa using this)
 case rest=>
  obtain⟨g4,g5,rfl,rfl,hne45,he,ho4,ho5⟩:=hcut
  have HM0:=Lib.hid (M3.mk (a6:=none) (l6:=0) (c6:=0) he (OwnI.nil R _ _ _) ho4 ho5 (by simp) (by simp) hne45 fun k h=>by cases h)
  clear he ho4 ho5 hms1 HO1 HE0 hne45
  go_wp2_with fail
  go_loopg [6,18] n (fun g v6 v18 wr=>∃ (i:Nat) (a6:Option Addr) (l6 c6:Nat) (Y:List Int),i≤n∧n-i≤g∧v18=.int .i64 (i:Int)∧v6=.slice a6 l6 c6∧M3 R w wr a6 l6 c6 (stackL op i) (mateL op n i) Y g4 g5 n)
  case atStart=>exact⟨0,none,0,0,List.replicate n 0,Nat.zero_le _,by omega,rfl,rfl,by rw[mateL_zero];exact HM0.out⟩
  case round=>
   obtain⟨i,a6,l6,c6,Y,hi,hg,rfl,rfl,hm⟩:=hrel
   have HM:=Lib.hid hm
   clear hm
   by_cases hil:i<n
   ·obtain⟨bS,oS,rfl,hc⟩:=(HV.out.ev HM.out.ev).1.cell (i:=i) (by rw[HL.out];exact hil)
    obtain⟨hc5,hz5⟩:=HM.out.at5 hil
    have hop:=HOp.out i hil
    obtain⟨k,hkx⟩:∃ k,nth L i=k:=⟨_,rfl⟩
    rw[hkx] at hc hop
    clear hkx
    have hsl:=stackL_length op i
    by_cases hk:k=1
    ·subst hk
     have ho:=hop.2 rfl
     have hst:=stackL_open ho
     have hmt:=mateL_open (n:=n) ho
     have HST:=Lib.hid hst
     have HMT:=Lib.hid hmt
     have HSL:=Lib.hid hsl
     clear hop ho hst hmt hsl
     rcases List.eq_nil_or_concat (stackL op i) with hs6|⟨S,y,hs6⟩
     ·have hl6:l6=0:=by rw[HM.out.st.ints.length_eq,hs6];rfl
      subst hl6
      clear hs6
      have HMa:=Lib.hid ((HM.out.put5 hil (-1)).alloc (.cells #[.int .i64 (i:Int)] 3))
      go_wp2_with (at_builtin;refine wpList_app_int (R:=R) (B:=w.heap.size) rfl _ _ rfl HMa.out.st rfl ⟨wr.heap.size,0,none⟩ 1 (i:Int) ?a0 ?a1 ?a2 ?a3 ?a4 ?_)
      case a0=>first|rfl|simp
      case a1=>exact cell_new (by simp) _ _
      case a2=>have:=HSL.out;omega
      case a3=>have:=HM.out.ev.size;simp;omega
      case a4=>exact fun q hq=>HMa.out.ev.inv.none_of_ge (by simp at hq ⊢;omega)
      intro v8 w6 ho8 hg6 hs6
      obtain⟨a8,c8,rfl,_⟩:=ho8.ints.open
      obtain⟨l8,hl8⟩:∃ l,(stackL op i ++ [(i:Int)]).length=l:=⟨_,rfl⟩
      rw[hl8] at ho8 hs6
      try rw[hl8]
      clear hl8
      have HM8:=Lib.hid (HMa.out.app ho8 hg6 fun k e=>by have:=hs6 k e;simpa using this)
      clear ho8 hg6 hs6
      go_wp2_with fail
      go_roundg (n-(i+1))
      case measure=>omega
      case rel=>exact⟨i+1,a8,l8,c8,(Y.set i (-1)),by omega,by omega,by go_num,rfl,by rw[HST.out,HMT.out];exact HM8.out⟩
     ·rw[List.concat_eq_append] at hs6
      have HMs:=HM.out
      rw[hs6] at HMs
      obtain⟨m,g6,rfl,hm6,rfl,hcap,h64,h65,hc6⟩:=HMs.top
      have HMa:=Lib.hid (((HM.out.put5 hil (-1)).put5 hil y).alloc (.cells #[.int .i64 (i:Int)] 3))
      clear HMs
      have hm1:m≤1000000:=by have:=HSL.out;rw[hs6] at this;simp at this;omega
      clear hs6
      have hw:IntKind.i64.wrap ((m:Int)+1-1)=(m:Int):=by
       rw[show ((m:Int)+1-1)=(m:Int) by omega];exact IntWalk.i64_in _ (by omega)
      go_wp2_with (at_builtin;refine wpList_app_int (R:=R) (B:=w.heap.size) rfl _ _ rfl HMa.out.st rfl ⟨wr.heap.size,0,none⟩ 1 (i:Int) ?a0 ?a1 ?a2 ?a3 ?a4 ?_)
      case a0=>first|rfl|simp
      case a1=>exact cell_new (by simp) _ _
      case a2=>have:=HSL.out;omega
      case a3=>have:=HM.out.ev.size;simp;omega
      case a4=>exact fun q hq=>HMa.out.ev.inv.none_of_ge (by simp at hq ⊢;omega)
      intro v8 w6 ho8 hg6 hs6
      obtain⟨a8,c8,rfl,_⟩:=ho8.ints.open
      obtain⟨l8,hl8⟩:∃ l,(stackL op i ++ [(i:Int)]).length=l:=⟨_,rfl⟩
      rw[hl8] at ho8 hs6
      try rw[hl8]
      clear hl8
      have HM8:=Lib.hid (HMa.out.app ho8 hg6 fun k e=>by have:=hs6 k e;simpa using this)
      clear ho8 hg6 hs6
      go_wp2_with fail
      go_roundg (n-(i+1))
      case measure=>omega
      case rel=>exact⟨i+1,a8,l8,c8,((Y.set i (-1)).set i y),by omega,by omega,by go_num,rfl,by rw[HST.out,HMT.out];exact HM8.out⟩
    ·have ho:op i=false:=by
      cases h:op i with
      | true=>exact absurd (hop.1 h) hk
      | false=>rfl
     obtain⟨o,r,hs⟩:∃ o r,(stk op i).1=o :: r:=by
      cases h:(stk op i).1 with
      | nil=>exact absurd h (HNe.out i hil ho)
      | cons o r=>exact⟨o,r,rfl⟩
     have hoi:o<i:=(stk_desc (op:=op) i).2 o (by rw[hs];exact List.mem_cons_self)
     have hon:o<n:=by omega
     have hst:=stackL_close ho hs
     have HMT:=Lib.hid (mateL_close (n:=n) ho hs)
     have HMs:=HM.out
     rw[hst] at HMs
     obtain⟨m,g6,rfl,hm6,rfl,hcap,h64,h65,hc6⟩:=HMs.top
     have hm1:m≤1000000:=by rw[hst] at hsl;simp at hsl;omega
     have HMp:=Lib.hid (((HMs.pop.put4 hil (o:Int)).put4 hon (i:Int)).put5 hil (nth Y o))
     obtain⟨hc4i,hz4i⟩:=HM.out.at4 hil
     obtain⟨hc4o,hz4o⟩:=HM.out.at4 hon
     obtain⟨hc5o,hz5o⟩:=HM.out.at5 hon
     have hne4:=HM.out.ne
     have hio:¬ i=o:=by omega
     have hw:IntKind.i64.wrap ((m:Int)+1-1)=(m:Int):=by
      rw[show ((m:Int)+1-1)=(m:Int) by omega];exact IntWalk.i64_in _ (by omega)
     clear HMs hst hs ho hop hsl
     go_wp2_with fail
     go_roundg (n-(i+1))
     case measure=>omega
     case rel=>exact⟨i+1,_,_,_,Y.set i (nth Y o),by omega,by omega,by go_num,rfl,by rw[HMT.out];exact HMp.out⟩
   ·obtain rfl:i=n:=by omega
    go_wp2_with fail
    go_ret2
    exact⟨_,_,_,rfl,HM.out.ev,HM.out.m4⟩
end
end Go.Proofs.YtklkgicjfnbndaaGreat
