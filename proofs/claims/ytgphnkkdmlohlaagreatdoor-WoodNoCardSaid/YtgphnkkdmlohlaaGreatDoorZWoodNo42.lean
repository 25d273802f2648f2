/- shell.Order of a triangulation: its beginning. Conditions: none. -/
import Derived.Test.YtgphnkkdmlohlaaGreatDoorZWoodNo41
import Derived.Test.YtgphnkkdmlohlaaGreatDoorZWoodNo35
import Derived.Test.YtgphnkkdmlohlaaGreatDoorZWoodNo40
import Derived.Test.YtgphnkkdmlohlaaGreatDoorZWoodNo11
import Derived.Test.YtgphnkkdmlohlaaGreatDoorZWoodNo39
namespace Go.Proofs.YtgphnkkdmlohlaaGreatDoor
open Go.RowKit
set_option linter.unusedVariables false
set_option linter.unusedSimpArgs false
def RetOrd (R:Reg) (w:World) (s:List Nat) (r:Nat) (e:Ending) (w':World):Prop:=∃ v R',e=.returned (.tuple #[v,.int .i64 0])∧Ev R w R' w'∧OwnI R' w.heap.size 3 w' v (orderL s r)
set_option maxRecDepth 100000 in
set_option maxHeartbeats 20000000 in
theorem sorder_any (R:Reg) (w:World) (hI:Inv R w) (p:Value) (s:List Nat) (r:Nat) (hp:MapAt R p s (r:Int) 0) (h:TriS s) (hr:r<s.length):
  Calls Tryz.prog 43 #[p] w (RetOrd R w s r):=by
 have HCo:=Lib.hid (corners_tri R w hI p s r hp h hr)
 obtain⟨V,hV⟩:∃ V,(sizesL s).length=V:=⟨_,rfl⟩
 have HVs:=Lib.hid (fun R' w' (he:Ev R w R' w')=>by
  have:=vertices_any R' w' he.inv p s (r:Int) 0 (he.map hp)
  rwa [Int.add_zero,hV] at this)
 have HDt:=Lib.hid (fun R' w' (he:Ev R w R' w')=>darts_any R' w' he.inv p s (r:Int) 0 (he.map hp))
 have HVx:=Lib.hid (fun R' w' (he:Ev R w R' w') (d:Nat) (hd:d<s.length)=>by
  have:=vertex_any R' w' he.inv p s (r:Int) 0 (he.map hp) (d:Int)
  rwa [nameI_in hd,vtx_eq h.perm hd] at this)
 have hVn:V≤131073:=by
  have k1:=sizesL_le h.perm
  have k2:s.length≤131073:=(hp.ok hI).2.2.1
  omega
 have HVn:=Lib.hid hVn
 have hsn:s.length≤131073:=(hp.ok hI).2.2.1
 have HVm:=Lib.hid (show V≤maxLen by unfold maxLen;omega)
 obtain⟨ii,hii,hzi,hsi,hbi⟩:=info_parts int_info
 obtain⟨ib,hib,hzb,hsb,hbb⟩:=info_parts bool_info
 obtain⟨c0,hc0⟩:∃ c0,nth (namesL s) r=c0:=⟨_,rfl⟩
 obtain⟨c1,hc1⟩:∃ c0,nth (namesL s) (at' (phiL s) r)=c0:=⟨_,rfl⟩
 obtain⟨c2,hc2⟩:∃ c0,nth (namesL s) (at' (phiL s) (at' (phiL s) r))=c0:=⟨_,rfl⟩
 unfold RetCor cor3 at HCo
 rw[hc0,hc1,hc2] at HCo
 have HMp:=Lib.hid (fun R' w' (he:Ev R w R' w')=>he.map hp)
 obtain⟨bp,rfl,hbp⟩:=hp
 clear hbp hVn hI
 go_enter Tryz.func43,Tryz.ntmps43
 go_wp2_with fail
 refine HCo.out.mono ?_
 rintro e w1 ⟨vc,R1,rfl,he1,hoc⟩
 obtain⟨ac,cc,ec,_⟩:=hoc.ints.open
 rw[show ([c0,c1,c2]:List Int).length=3 from rfl] at ec
 subst ec
 obtain⟨gc,oc,rfl,z0⟩:=hoc.free.later (i:=0) (by simp)
 obtain⟨_,_,e,z1⟩:=hoc.free.later (i:=1) (by simp)
 cases e
 obtain⟨_,_,e,z2⟩:=hoc.free.later (i:=2) (by simp)
 cases e
 have HE1:=Lib.hid he1
 have HXc:=Lib.hid (fun R' w' (he:Ev R1 w1 R' w')=>(⟨(by have:=z0 R' w' he;rwa [Nat.add_zero] at this:w'.cell? ⟨gc,oc,none⟩=some (.int .i64 c0)),z1 R' w' he,z2 R' w' he⟩:w'.cell? ⟨gc,oc,none⟩=some (.int .i64 c0)∧w'.cell? ⟨gc,oc+1,none⟩=some (.int .i64 c1)∧w'.cell? ⟨gc,oc+2,none⟩=some (.int .i64 c2)))
 have HVs:=Lib.hid (fun R' w' (he:Ev R1 w1 R' w')=>HVs.out R' w' (HE1.out.trans he))
 clear he1 hoc z0 z1 z2 HCo
 go_upto_region 4 with fail
 go_cut [6] (fun s6 wx=>∃ (b:Nat) (ab:Option Addr) (ag:Option Addr) (ad:Option Addr) (R4:Reg) (cb cg cd:Nat),s6=.pointer (some ⟨b,0,none⟩)∧LeftOwn R1 w1 R4 wx b (.pointer (some ⟨bp,0,none⟩)) ab 3 cb ag cg ad cd V [c0,c2,c1] (fun _=>false) (List.replicate V 0))
 case first=>
  as_aux_lemma=>
   have HEx:=Lib.hid ((Ev.refl HE1.out.inv).drew)
   refine wp_region_held_drew (S:=(fun w':World=>w'.cell? ⟨gc,oc,none⟩=some (.int .i64 c0)∧w'.cell? ⟨gc,oc+1,none⟩=some (.int .i64 c1)∧w'.cell? ⟨gc,oc+2,none⟩=some (.int .i64 c2))) (by kernel_rfl) (HXc.out _ _ HEx.out) (fun hHeld=>?_)
   refine tk 0 (v:=?fke_0) ?gke_0 ?_
   case gke_0=>(intro w' ⟨s0,s1,s2⟩;go_simp;try with_reducible rfl)
   try simp only[Act.put,rd]
   refine tk 1 (v:=?fke_1) ?gke_1 ?_
   case gke_1=>(intro w' ⟨s0,s1,s2⟩;go_simp;try with_reducible rfl)
   try simp only[Act.put,rd]
   refine tk 2 (v:=?fke_2) ?gke_2 ?_
   case gke_2=>(intro w' ⟨s0,s1,s2⟩;go_simp;try with_reducible rfl)
   try simp only[Act.put,rd]
   refine tk 3 (v:=?fke_3) ?gke_3 ?_
   case gke_3=>(intro w' ⟨s0,s1,s2⟩;go_simp;try with_reducible rfl)
   try simp only[Act.put,rd]
   refine tk 4 (v:=?fke_4) ?gke_4 ?_
   case gke_4=>(intro w' ⟨s0,s1,s2⟩;go_simp;try with_reducible rfl)
   try simp only[Act.put,rd]
   refine tk 5 (v:=?fke_5) ?gke_5 ?_
   case gke_5=>(intro w' ⟨s0,s1,s2⟩;go_simp;try with_reducible rfl)
   try simp only[Act.put,rd]
   refine tk 6 (v:=?fke_6) ?gke_6 ?_
   case gke_6=>(intro w' ⟨s0,s1,s2⟩;go_simp;try with_reducible rfl)
   try simp only[Act.put,rd]
   refine tk 7 (v:=?fke_7) ?gke_7 ?_
   case gke_7=>(intro w' ⟨s0,s1,s2⟩;go_simp;try with_reducible rfl)
   try simp only[Act.put,rd]
   refine tk 8 (v:=?fke_8) ?gke_8 ?_
   case gke_8=>(intro w' ⟨s0,s1,s2⟩;go_simp;try with_reducible rfl)
   try simp only[Act.put,rd]
   refine tk 9 (v:=?fke_9) ?gke_9 ?_
   case gke_9=>(intro w' ⟨s0,s1,s2⟩;go_simp;try with_reducible rfl)
   try simp only[Act.put,rd]
   refine tk 11 (v:=?fke_11) ?gke_11 ?_
   case gke_11=>(intro w' ⟨s0,s1,s2⟩;go_simp;try with_reducible rfl)
   try simp only[Act.put,rd]
   refine tk 14 (v:=?fke_14) ?gke_14 ?_
   case gke_14=>(intro w' ⟨s0,s1,s2⟩;go_simp;try with_reducible rfl)
   try simp only[Act.put,rd]
   obtain⟨wx,hwx⟩:∃ y,w1.drew=y:=⟨_,rfl⟩
   rw[hwx] at HEx hHeld ⊢
   clear hwx
   obtain⟨Rx,hRx⟩:∃ y,R1=y:=⟨_,rfl⟩
   have HEx:=Lib.hid (by have:=HEx.out;rwa [show Ev R1 w1 R1 wx=Ev R1 w1 Rx wx by rw[hRx]] at this:Ev R1 w1 Rx wx)
   clear hRx
   refine wpAnyH_ready (rs:=[10,12]) (by kernel_rfl) (by simp) (AllReadyH.cons rfl (fun K hK=>?_) (AllReadyH.cons rfl (fun K hK=>?_) AllReadyH.nil))
   ·as_aux_lemma=>
     go_simp
     have HBx:=Lib.hid (OwnI.new3 (R:=Rx) (B:=w1.heap.size) (w:=wx) HEx.out.size (HEx.out.inv.none_of_ge (Nat.le_refl _)) c0 c2 c1)
     have HEx:=Lib.hid (HEx.out.alloc (.cells #[.int .i64 c0,.int .i64 c2,.int .i64 c1] 3))
     refine hK.out _ _ (HXc.out _ _ HEx.out) (fun hHeldn=>?_)
     try simp only[Act.put,rd]
     obtain⟨wy,hwy⟩:∃ y,wx.alloc (.cells #[.int .i64 c0,.int .i64 c2,.int .i64 c1] 3)=y:=⟨_,rfl⟩
     obtain⟨gB,hgB⟩:∃ y,wx.heap.size=y:=⟨_,rfl⟩
     rw[hwy] at HBx HEx hHeldn
     rw[hgB] at HBx
     try rw[hwy]
     try rw[hgB]
     clear hwy hgB hHeld
     obtain⟨wx,rfl⟩:∃ y:World,y=wy:=⟨_,rfl⟩
     have hHeld:=hHeldn
     clear hHeldn
     refine nx 12 fun K hK=>?_
     go_simp
     refine (HVs.out _ _ HEx.out).mono ?_
     rintro zz wy ⟨rfl,Ry,hey⟩
     have HEx:=Lib.hid (HEx.out.trans hey)
     have HBx:=Lib.hid (HBx.out.ev hey)
     go_simp
     refine hK.out _ _ (HXc.out _ _ HEx.out) (fun hHeldn=>?_)
     try simp only[Act.put,rd]
     clear hey hHeld
     obtain⟨wx,rfl⟩:∃ y:World,y=wy:=⟨_,rfl⟩
     obtain⟨Rx,rfl⟩:∃ y:Reg,y=Ry:=⟨_,rfl⟩
     have hHeld:=hHeldn
     clear hHeldn
     refine wpAnyH_ready (rs:=[13,15]) (by kernel_rfl) (by simp) (AllReadyH.cons rfl (fun K hK=>?_) (AllReadyH.cons rfl (fun K hK=>?_) AllReadyH.nil))
     ·as_aux_lemma=>
       refine step_make rfl _ _ 102 4 rfl ib _ Tryz.underlying102 hib hzb rfl hsb V rfl rfl (by rw[hbb];have:=HVn.out;omega) HVm.out (R:=Rx) (B:=w1.heap.size) HEx.out.size (HEx.out.inv.none_of_ge (Nat.le_refl _)) ?_
       intro wy hoy hgy
       have HGx:=Lib.hid hoy.falses
       have HEx:=Lib.hid (HEx.out.grown hgy (fun k hk=>by cases hk))
       have hNBG:gB≠wx.heap.size:=fun e=>by have:=(HBx.out.lt gB rfl).2;omega
       have HBx:=Lib.hid (HBx.out.kept hgy (.inr (by simp[Value.ownBlock])))
       refine hK.out _ _ (HXc.out _ _ HEx.out) (fun hHeldn=>?_)
       try simp only[Act.put,rd]
       obtain⟨gG,hgG⟩:∃ y,wx.heap.size=y:=⟨_,rfl⟩
       rw[hgG] at HGx hNBG
       try rw[hgG]
       clear hgG hoy hgy hHeld
       obtain⟨wx,rfl⟩:∃ y:World,y=wy:=⟨_,rfl⟩
       have hHeld:=hHeldn
       clear hHeldn
       refine nx 15 fun K hK=>?_
       go_simp
       refine (HVs.out _ _ HEx.out).mono ?_
       rintro zz wy ⟨rfl,Ry,hey⟩
       have HEx:=Lib.hid (HEx.out.trans hey)
       have HBx:=Lib.hid (HBx.out.ev hey)
       have HGx:=Lib.hid (HGx.out.ev hey)
       go_simp
       refine hK.out _ _ (HXc.out _ _ HEx.out) (fun hHeldn=>?_)
       try simp only[Act.put,rd]
       clear hey hHeld
       obtain⟨wx,rfl⟩:∃ y:World,y=wy:=⟨_,rfl⟩
       obtain⟨Rx,rfl⟩:∃ y:Reg,y=Ry:=⟨_,rfl⟩
       have hHeld:=hHeldn
       clear hHeldn
       refine nx 16 fun K hK=>?_
       refine step_make rfl _ _ 25 3 rfl ii _ Tryz.underlying25 hii hzi rfl hsi V rfl rfl (by rw[hbi];have:=HVn.out;omega) HVm.out (R:=Rx) (B:=w1.heap.size) HEx.out.size (HEx.out.inv.none_of_ge (Nat.le_refl _)) ?_
       intro wy hoy hgy
       have HDx:=Lib.hid hoy.zeros
       have HEx:=Lib.hid (HEx.out.grown hgy (fun k hk=>by cases hk))
       have hNBD:gB≠wx.heap.size:=fun e=>by have:=(HBx.out.lt gB rfl).2;omega
       have HBx:=Lib.hid (HBx.out.kept hgy (.inr (by simp[Value.ownBlock])))
       have hNGD:gG≠wx.heap.size:=fun e=>by have:=(HGx.out.lt gG rfl).2;omega
       have HGx:=Lib.hid (HGx.out.kept hgy (.inr (by simp[Value.ownBlock])))
       refine hK.out _ _ (HXc.out _ _ HEx.out) (fun hHeldn=>?_)
       try simp only[Act.put,rd]
       obtain⟨gD,hgD⟩:∃ y,wx.heap.size=y:=⟨_,rfl⟩
       rw[hgD] at HDx hNBD hNGD
       try rw[hgD]
       clear hgD hoy hgy hHeld
       obtain⟨wx,rfl⟩:∃ y:World,y=wy:=⟨_,rfl⟩
       have hHeld:=hHeldn
       clear hHeldn
       refine tk 17 (v:=?fz1) ?gz1 ?_
       case gz1=>(intro w' ⟨s0,s1,s2⟩;go_simp;try with_reducible rfl)
       try simp only[Act.put,rd]
       have hlo:=left_new (p:=.pointer (some ⟨bp,0,none⟩)) HEx.out HBx.out HGx.out HDx.out rfl (by simp) HVm.out (by first|exact hNBG|exact fun e=>hNBG e.symm) (by first|exact hNBD|exact fun e=>hNBD e.symm) (by first|exact hNGD|exact fun e=>hNGD e.symm)
       refine nx 18 fun K hK=>?_
       go_simp
       refine hK.out _ _ (HXc.out _ _ (HEx.out.alloc _)) (fun hHeldz=>?_)
       try simp only[Act.put,rd]
       refine tk 19 (v:=?fy1) ?gy1 ?_
       case gy1=>(intro w' ⟨s0,s1,s2⟩;go_simp;try with_reducible rfl)
       try simp only[Act.put,rd]
       refine wpAnyH_done (by kernel_rfl) ?_ _
       go_wp2_with fail
       go_meet
       exact⟨_,_,_,_,_,_,_,_,rfl,hlo⟩
     ·as_aux_lemma=>
       go_simp
       refine (HVs.out _ _ HEx.out).mono ?_
       rintro zz wy ⟨rfl,Ry,hey⟩
       have HEx:=Lib.hid (HEx.out.trans hey)
       have HBx:=Lib.hid (HBx.out.ev hey)
       go_simp
       refine hK.out _ _ (HXc.out _ _ HEx.out) (fun hHeldn=>?_)
       try simp only[Act.put,rd]
       clear hey hHeld
       obtain⟨wx,rfl⟩:∃ y:World,y=wy:=⟨_,rfl⟩
       obtain⟨Rx,rfl⟩:∃ y:Reg,y=Ry:=⟨_,rfl⟩
       have hHeld:=hHeldn
       clear hHeldn
       refine wpAnyH_ready (rs:=[13,16]) (by kernel_rfl) (by simp) (AllReadyH.cons rfl (fun K hK=>?_) (AllReadyH.cons rfl (fun K hK=>?_) AllReadyH.nil))
       ·as_aux_lemma=>
         refine step_make rfl _ _ 102 4 rfl ib _ Tryz.underlying102 hib hzb rfl hsb V rfl rfl (by rw[hbb];have:=HVn.out;omega) HVm.out (R:=Rx) (B:=w1.heap.size) HEx.out.size (HEx.out.inv.none_of_ge (Nat.le_refl _)) ?_
         intro wy hoy hgy
         have HGx:=Lib.hid hoy.falses
         have HEx:=Lib.hid (HEx.out.grown hgy (fun k hk=>by cases hk))
         have hNBG:gB≠wx.heap.size:=fun e=>by have:=(HBx.out.lt gB rfl).2;omega
         have HBx:=Lib.hid (HBx.out.kept hgy (.inr (by simp[Value.ownBlock])))
         refine hK.out _ _ (HXc.out _ _ HEx.out) (fun hHeldn=>?_)
         try simp only[Act.put,rd]
         obtain⟨gG,hgG⟩:∃ y,wx.heap.size=y:=⟨_,rfl⟩
         rw[hgG] at HGx hNBG
         try rw[hgG]
         clear hgG hoy hgy hHeld
         obtain⟨wx,rfl⟩:∃ y:World,y=wy:=⟨_,rfl⟩
         have hHeld:=hHeldn
         clear hHeldn
         refine nx 16 fun K hK=>?_
         refine step_make rfl _ _ 25 3 rfl ii _ Tryz.underlying25 hii hzi rfl hsi V rfl rfl (by rw[hbi];have:=HVn.out;omega) HVm.out (R:=Rx) (B:=w1.heap.size) HEx.out.size (HEx.out.inv.none_of_ge (Nat.le_refl _)) ?_
         intro wy hoy hgy
         have HDx:=Lib.hid hoy.zeros
         have HEx:=Lib.hid (HEx.out.grown hgy (fun k hk=>by cases hk))
         have hNBD:gB≠wx.heap.size:=fun e=>by have:=(HBx.out.lt gB rfl).2;omega
         have HBx:=Lib.hid (HBx.out.kept hgy (.inr (by simp[Value.ownBlock])))
         have hNGD:gG≠wx.heap.size:=fun e=>by have:=(HGx.out.lt gG rfl).2;omega
         have HGx:=Lib.hid (HGx.out.kept hgy (.inr (by simp[Value.ownBlock])))
         refine hK.out _ _ (HXc.out _ _ HEx.out) (fun hHeldn=>?_)
         try simp only[Act.put,rd]
         obtain⟨gD,hgD⟩:∃ y,wx.heap.size=y:=⟨_,rfl⟩
         rw[hgD] at HDx hNBD hNGD
         try rw[hgD]
         clear hgD hoy hgy hHeld
         obtain⟨wx,rfl⟩:∃ y:World,y=wy:=⟨_,rfl⟩
         have hHeld:=hHeldn
         clear hHeldn
         refine tk 17 (v:=?fz2) ?gz2 ?_
         case gz2=>(intro w' ⟨s0,s1,s2⟩;go_simp;try with_reducible rfl)
         try simp only[Act.put,rd]
         have hlo:=left_new (p:=.pointer (some ⟨bp,0,none⟩)) HEx.out HBx.out HGx.out HDx.out rfl (by simp) HVm.out (by first|exact hNBG|exact fun e=>hNBG e.symm) (by first|exact hNBD|exact fun e=>hNBD e.symm) (by first|exact hNGD|exact fun e=>hNGD e.symm)
         refine nx 18 fun K hK=>?_
         go_simp
         refine hK.out _ _ (HXc.out _ _ (HEx.out.alloc _)) (fun hHeldz=>?_)
         try simp only[Act.put,rd]
         refine tk 19 (v:=?fy2) ?gy2 ?_
         case gy2=>(intro w' ⟨s0,s1,s2⟩;go_simp;try with_reducible rfl)
         try simp only[Act.put,rd]
         refine wpAnyH_done (by kernel_rfl) ?_ _
         go_wp2_with fail
         go_meet
         exact⟨_,_,_,_,_,_,_,_,rfl,hlo⟩
       ·as_aux_lemma=>
         refine step_make rfl _ _ 25 3 rfl ii _ Tryz.underlying25 hii hzi rfl hsi V rfl rfl (by rw[hbi];have:=HVn.out;omega) HVm.out (R:=Rx) (B:=w1.heap.size) HEx.out.size (HEx.out.inv.none_of_ge (Nat.le_refl _)) ?_
         intro wy hoy hgy
         have HDx:=Lib.hid hoy.zeros
         have HEx:=Lib.hid (HEx.out.grown hgy (fun k hk=>by cases hk))
         have hNBD:gB≠wx.heap.size:=fun e=>by have:=(HBx.out.lt gB rfl).2;omega
         have HBx:=Lib.hid (HBx.out.kept hgy (.inr (by simp[Value.ownBlock])))
         refine hK.out _ _ (HXc.out _ _ HEx.out) (fun hHeldn=>?_)
         try simp only[Act.put,rd]
         obtain⟨gD,hgD⟩:∃ y,wx.heap.size=y:=⟨_,rfl⟩
         rw[hgD] at HDx hNBD
         try rw[hgD]
         clear hgD hoy hgy hHeld
         obtain⟨wx,rfl⟩:∃ y:World,y=wy:=⟨_,rfl⟩
         have hHeld:=hHeldn
         clear hHeldn
         refine nx 13 fun K hK=>?_
         refine step_make rfl _ _ 102 4 rfl ib _ Tryz.underlying102 hib hzb rfl hsb V rfl rfl (by rw[hbb];have:=HVn.out;omega) HVm.out (R:=Rx) (B:=w1.heap.size) HEx.out.size (HEx.out.inv.none_of_ge (Nat.le_refl _)) ?_
         intro wy hoy hgy
         have HGx:=Lib.hid hoy.falses
         have HEx:=Lib.hid (HEx.out.grown hgy (fun k hk=>by cases hk))
         have hNBG:gB≠wx.heap.size:=fun e=>by have:=(HBx.out.lt gB rfl).2;omega
         have HBx:=Lib.hid (HBx.out.kept hgy (.inr (by simp[Value.ownBlock])))
         have hNGD:wx.heap.size≠gD:=fun e=>by have:=(HDx.out.lt gD rfl).2;omega
         have HDx:=Lib.hid (HDx.out.kept hgy (.inr (by simp[Value.ownBlock])))
         refine hK.out _ _ (HXc.out _ _ HEx.out) (fun hHeldn=>?_)
         try simp only[Act.put,rd]
         obtain⟨gG,hgG⟩:∃ y,wx.heap.size=y:=⟨_,rfl⟩
         rw[hgG] at HGx hNBG hNGD
         try rw[hgG]
         clear hgG hoy hgy hHeld
         obtain⟨wx,rfl⟩:∃ y:World,y=wy:=⟨_,rfl⟩
         have hHeld:=hHeldn
         clear hHeldn
         refine tk 17 (v:=?fz3) ?gz3 ?_
         case gz3=>(intro w' ⟨s0,s1,s2⟩;go_simp;try with_reducible rfl)
         try simp only[Act.put,rd]
         have hlo:=left_new (p:=.pointer (some ⟨bp,0,none⟩)) HEx.out HBx.out HGx.out HDx.out rfl (by simp) HVm.out (by first|exact hNBG|exact fun e=>hNBG e.symm) (by first|exact hNBD|exact fun e=>hNBD e.symm) (by first|exact hNGD|exact fun e=>hNGD e.symm)
         refine nx 18 fun K hK=>?_
         go_simp
         refine hK.out _ _ (HXc.out _ _ (HEx.out.alloc _)) (fun hHeldz=>?_)
         try simp only[Act.put,rd]
         refine tk 19 (v:=?fy3) ?gy3 ?_
         case gy3=>(intro w' ⟨s0,s1,s2⟩;go_simp;try with_reducible rfl)
         try simp only[Act.put,rd]
         refine wpAnyH_done (by kernel_rfl) ?_ _
         go_wp2_with fail
         go_meet
         exact⟨_,_,_,_,_,_,_,_,rfl,hlo⟩
   ·as_aux_lemma=>
     go_simp
     refine (HVs.out _ _ HEx.out).mono ?_
     rintro zz wy ⟨rfl,Ry,hey⟩
     have HEx:=Lib.hid (HEx.out.trans hey)
     go_simp
     refine hK.out _ _ (HXc.out _ _ HEx.out) (fun hHeldn=>?_)
     try simp only[Act.put,rd]
     clear hey hHeld
     obtain⟨wx,rfl⟩:∃ y:World,y=wy:=⟨_,rfl⟩
     obtain⟨Rx,rfl⟩:∃ y:Reg,y=Ry:=⟨_,rfl⟩
     have hHeld:=hHeldn
     clear hHeldn
     refine wpAnyH_ready (rs:=[10,13,15]) (by kernel_rfl) (by simp) (AllReadyH.cons rfl (fun K hK=>?_) (AllReadyH.cons rfl (fun K hK=>?_) (AllReadyH.cons rfl (fun K hK=>?_) AllReadyH.nil)))
     ·as_aux_lemma=>
       go_simp
       have HBx:=Lib.hid (OwnI.new3 (R:=Rx) (B:=w1.heap.size) (w:=wx) HEx.out.size (HEx.out.inv.none_of_ge (Nat.le_refl _)) c0 c2 c1)
       have HEx:=Lib.hid (HEx.out.alloc (.cells #[.int .i64 c0,.int .i64 c2,.int .i64 c1] 3))
       refine hK.out _ _ (HXc.out _ _ HEx.out) (fun hHeldn=>?_)
       try simp only[Act.put,rd]
       obtain⟨wy,hwy⟩:∃ y,wx.alloc (.cells #[.int .i64 c0,.int .i64 c2,.int .i64 c1] 3)=y:=⟨_,rfl⟩
       obtain⟨gB,hgB⟩:∃ y,wx.heap.size=y:=⟨_,rfl⟩
       rw[hwy] at HBx HEx hHeldn
       rw[hgB] at HBx
       try rw[hwy]
       try rw[hgB]
       clear hwy hgB hHeld
       obtain⟨wx,rfl⟩:∃ y:World,y=wy:=⟨_,rfl⟩
       have hHeld:=hHeldn
       clear hHeldn
       refine wpAnyH_ready (rs:=[13,15]) (by kernel_rfl) (by simp) (AllReadyH.cons rfl (fun K hK=>?_) (AllReadyH.cons rfl (fun K hK=>?_) AllReadyH.nil))
       ·as_aux_lemma=>
         refine step_make rfl _ _ 102 4 rfl ib _ Tryz.underlying102 hib hzb rfl hsb V rfl rfl (by rw[hbb];have:=HVn.out;omega) HVm.out (R:=Rx) (B:=w1.heap.size) HEx.out.size (HEx.out.inv.none_of_ge (Nat.le_refl _)) ?_
         intro wy hoy hgy
         have HGx:=Lib.hid hoy.falses
         have HEx:=Lib.hid (HEx.out.grown hgy (fun k hk=>by cases hk))
         have hNBG:gB≠wx.heap.size:=fun e=>by have:=(HBx.out.lt gB rfl).2;omega
         have HBx:=Lib.hid (HBx.out.kept hgy (.inr (by simp[Value.ownBlock])))
         refine hK.out _ _ (HXc.out _ _ HEx.out) (fun hHeldn=>?_)
         try simp only[Act.put,rd]
         obtain⟨gG,hgG⟩:∃ y,wx.heap.size=y:=⟨_,rfl⟩
         rw[hgG] at HGx hNBG
         try rw[hgG]
         clear hgG hoy hgy hHeld
         obtain⟨wx,rfl⟩:∃ y:World,y=wy:=⟨_,rfl⟩
         have hHeld:=hHeldn
         clear hHeldn
         refine nx 15 fun K hK=>?_
         go_simp
         refine (HVs.out _ _ HEx.out).mono ?_
         rintro zz wy ⟨rfl,Ry,hey⟩
         have HEx:=Lib.hid (HEx.out.trans hey)
         have HBx:=Lib.hid (HBx.out.ev hey)
         have HGx:=Lib.hid (HGx.out.ev hey)
         go_simp
         refine hK.out _ _ (HXc.out _ _ HEx.out) (fun hHeldn=>?_)
         try simp only[Act.put,rd]
         clear hey hHeld
         obtain⟨wx,rfl⟩:∃ y:World,y=wy:=⟨_,rfl⟩
         obtain⟨Rx,rfl⟩:∃ y:Reg,y=Ry:=⟨_,rfl⟩
         have hHeld:=hHeldn
         clear hHeldn
         refine nx 16 fun K hK=>?_
         refine step_make rfl _ _ 25 3 rfl ii _ Tryz.underlying25 hii hzi rfl hsi V rfl rfl (by rw[hbi];have:=HVn.out;omega) HVm.out (R:=Rx) (B:=w1.heap.size) HEx.out.size (HEx.out.inv.none_of_ge (Nat.le_refl _)) ?_
         intro wy hoy hgy
         have HDx:=Lib.hid hoy.zeros
         have HEx:=Lib.hid (HEx.out.grown hgy (fun k hk=>by cases hk))
         have hNBD:gB≠wx.heap.size:=fun e=>by have:=(HBx.out.lt gB rfl).2;omega
         have HBx:=Lib.hid (HBx.out.kept hgy (.inr (by simp[Value.ownBlock])))
         have hNGD:gG≠wx.heap.size:=fun e=>by have:=(HGx.out.lt gG rfl).2;omega
         have HGx:=Lib.hid (HGx.out.kept hgy (.inr (by simp[Value.ownBlock])))
         refine hK.out _ _ (HXc.out _ _ HEx.out) (fun hHeldn=>?_)
         try simp only[Act.put,rd]
         obtain⟨gD,hgD⟩:∃ y,wx.heap.size=y:=⟨_,rfl⟩
         rw[hgD] at HDx hNBD hNGD
         try rw[hgD]
         clear hgD hoy hgy hHeld
         obtain⟨wx,rfl⟩:∃ y:World,y=wy:=⟨_,rfl⟩
         have hHeld:=hHeldn
         clear hHeldn
         refine tk 17 (v:=?fz4) ?gz4 ?_
         case gz4=>(intro w' ⟨s0,s1,s2⟩;go_simp;try with_reducible rfl)
         try simp only[Act.put,rd]
         have hlo:=left_new (p:=.pointer (some ⟨bp,0,none⟩)) HEx.out HBx.out HGx.out HDx.out rfl (by simp) HVm.out (by first|exact hNBG|exact fun e=>hNBG e.symm) (by first|exact hNBD|exact fun e=>hNBD e.symm) (by first|exact hNGD|exact fun e=>hNGD e.symm)
         refine nx 18 fun K hK=>?_
         go_simp
         refine hK.out _ _ (HXc.out _ _ (HEx.out.alloc _)) (fun hHeldz=>?_)
         try simp only[Act.put,rd]
         refine tk 19 (v:=?fy4) ?gy4 ?_
         case gy4=>(intro w' ⟨s0,s1,s2⟩;go_simp;try with_reducible rfl)
         try simp only[Act.put,rd]
         refine wpAnyH_done (by kernel_rfl) ?_ _
         go_wp2_with fail
         go_meet
         exact⟨_,_,_,_,_,_,_,_,rfl,hlo⟩
       ·as_aux_lemma=>
         go_simp
         refine (HVs.out _ _ HEx.out).mono ?_
         rintro zz wy ⟨rfl,Ry,hey⟩
         have HEx:=Lib.hid (HEx.out.trans hey)
         have HBx:=Lib.hid (HBx.out.ev hey)
         go_simp
         refine hK.out _ _ (HXc.out _ _ HEx.out) (fun hHeldn=>?_)
         try simp only[Act.put,rd]
         clear hey hHeld
         obtain⟨wx,rfl⟩:∃ y:World,y=wy:=⟨_,rfl⟩
         obtain⟨Rx,rfl⟩:∃ y:Reg,y=Ry:=⟨_,rfl⟩
         have hHeld:=hHeldn
         clear hHeldn
         refine wpAnyH_ready (rs:=[13,16]) (by kernel_rfl) (by simp) (AllReadyH.cons rfl (fun K hK=>?_) (AllReadyH.cons rfl (fun K hK=>?_) AllReadyH.nil))
         ·as_aux_lemma=>
           refine step_make rfl _ _ 102 4 rfl ib _ Tryz.underlying102 hib hzb rfl hsb V rfl rfl (by rw[hbb];have:=HVn.out;omega) HVm.out (R:=Rx) (B:=w1.heap.size) HEx.out.size (HEx.out.inv.none_of_ge (Nat.le_refl _)) ?_
           intro wy hoy hgy
           have HGx:=Lib.hid hoy.falses
           have HEx:=Lib.hid (HEx.out.grown hgy (fun k hk=>by cases hk))
           have hNBG:gB≠wx.heap.size:=fun e=>by have:=(HBx.out.lt gB rfl).2;omega
           have HBx:=Lib.hid (HBx.out.kept hgy (.inr (by simp[Value.ownBlock])))
           refine hK.out _ _ (HXc.out _ _ HEx.out) (fun hHeldn=>?_)
           try simp only[Act.put,rd]
           obtain⟨gG,hgG⟩:∃ y,wx.heap.size=y:=⟨_,rfl⟩
           rw[hgG] at HGx hNBG
           try rw[hgG]
           clear hgG hoy hgy hHeld
           obtain⟨wx,rfl⟩:∃ y:World,y=wy:=⟨_,rfl⟩
           have hHeld:=hHeldn
           clear hHeldn
           refine nx 16 fun K hK=>?_
           refine step_make rfl _ _ 25 3 rfl ii _ Tryz.underlying25 hii hzi rfl hsi V rfl rfl (by rw[hbi];have:=HVn.out;omega) HVm.out (R:=Rx) (B:=w1.heap.size) HEx.out.size (HEx.out.inv.none_of_ge (Nat.le_refl _)) ?_
           intro wy hoy hgy
           have HDx:=Lib.hid hoy.zeros
           have HEx:=Lib.hid (HEx.out.grown hgy (fun k hk=>by cases hk))
           have hNBD:gB≠wx.heap.size:=fun e=>by have:=(HBx.out.lt gB rfl).2;omega
           have HBx:=Lib.hid (HBx.out.kept hgy (.inr (by simp[Value.ownBlock])))
           have hNGD:gG≠wx.heap.size:=fun e=>by have:=(HGx.out.lt gG rfl).2;omega
           have HGx:=Lib.hid (HGx.out.kept hgy (.inr (by simp[Value.ownBlock])))
           refine hK.out _ _ (HXc.out _ _ HEx.out) (fun hHeldn=>?_)
           try simp only[Act.put,rd]
           obtain⟨gD,hgD⟩:∃ y,wx.heap.size=y:=⟨_,rfl⟩
           rw[hgD] at HDx hNBD hNGD
           try rw[hgD]
           clear hgD hoy hgy hHeld
           obtain⟨wx,rfl⟩:∃ y:World,y=wy:=⟨_,rfl⟩
           have hHeld:=hHeldn
           clear hHeldn
           refine tk 17 (v:=?fz5) ?gz5 ?_
           case gz5=>(intro w' ⟨s0,s1,s2⟩;go_simp;try with_reducible rfl)
           try simp only[Act.put,rd]
           have hlo:=left_new (p:=.pointer (some ⟨bp,0,none⟩)) HEx.out HBx.out HGx.out HDx.out rfl (by simp) HVm.out (by first|exact hNBG|exact fun e=>hNBG e.symm) (by first|exact hNBD|exact fun e=>hNBD e.symm) (by first|exact hNGD|exact fun e=>hNGD e.symm)
           refine nx 18 fun K hK=>?_
           go_simp
           refine hK.out _ _ (HXc.out _ _ (HEx.out.alloc _)) (fun hHeldz=>?_)
           try simp only[Act.put,rd]
           refine tk 19 (v:=?fy5) ?gy5 ?_
           case gy5=>(intro w' ⟨s0,s1,s2⟩;go_simp;try with_reducible rfl)
           try simp only[Act.put,rd]
           refine wpAnyH_done (by kernel_rfl) ?_ _
           go_wp2_with fail
           go_meet
           exact⟨_,_,_,_,_,_,_,_,rfl,hlo⟩
         ·as_aux_lemma=>
           refine step_make rfl _ _ 25 3 rfl ii _ Tryz.underlying25 hii hzi rfl hsi V rfl rfl (by rw[hbi];have:=HVn.out;omega) HVm.out (R:=Rx) (B:=w1.heap.size) HEx.out.size (HEx.out.inv.none_of_ge (Nat.le_refl _)) ?_
           intro wy hoy hgy
           have HDx:=Lib.hid hoy.zeros
           have HEx:=Lib.hid (HEx.out.grown hgy (fun k hk=>by cases hk))
           have hNBD:gB≠wx.heap.size:=fun e=>by have:=(HBx.out.lt gB rfl).2;omega
           have HBx:=Lib.hid (HBx.out.kept hgy (.inr (by simp[Value.ownBlock])))
           refine hK.out _ _ (HXc.out _ _ HEx.out) (fun hHeldn=>?_)
           try simp only[Act.put,rd]
           obtain⟨gD,hgD⟩:∃ y,wx.heap.size=y:=⟨_,rfl⟩
           rw[hgD] at HDx hNBD
           try rw[hgD]
           clear hgD hoy hgy hHeld
           obtain⟨wx,rfl⟩:∃ y:World,y=wy:=⟨_,rfl⟩
           have hHeld:=hHeldn
           clear hHeldn
           refine nx 13 fun K hK=>?_
           refine step_make rfl _ _ 102 4 rfl ib _ Tryz.underlying102 hib hzb rfl hsb V rfl rfl (by rw[hbb];have:=HVn.out;omega) HVm.out (R:=Rx) (B:=w1.heap.size) HEx.out.size (HEx.out.inv.none_of_ge (Nat.le_refl _)) ?_
           intro wy hoy hgy
           have HGx:=Lib.hid hoy.falses
           have HEx:=Lib.hid (HEx.out.grown hgy (fun k hk=>by cases hk))
           have hNBG:gB≠wx.heap.size:=fun e=>by have:=(HBx.out.lt gB rfl).2;omega
           have HBx:=Lib.hid (HBx.out.kept hgy (.inr (by simp[Value.ownBlock])))
           have hNGD:wx.heap.size≠gD:=fun e=>by have:=(HDx.out.lt gD rfl).2;omega
           have HDx:=Lib.hid (HDx.out.kept hgy (.inr (by simp[Value.ownBlock])))
           refine hK.out _ _ (HXc.out _ _ HEx.out) (fun hHeldn=>?_)
           try simp only[Act.put,rd]
           obtain⟨gG,hgG⟩:∃ y,wx.heap.size=y:=⟨_,rfl⟩
           rw[hgG] at HGx hNBG hNGD
           try rw[hgG]
           clear hgG hoy hgy hHeld
           obtain⟨wx,rfl⟩:∃ y:World,y=wy:=⟨_,rfl⟩
           have hHeld:=hHeldn
           clear hHeldn
           refine tk 17 (v:=?fz6) ?gz6 ?_
           case gz6=>(intro w' ⟨s0,s1,s2⟩;go_simp;try with_reducible rfl)
           try simp only[Act.put,rd]
           have hlo:=left_new (p:=.pointer (some ⟨bp,0,none⟩)) HEx.out HBx.out HGx.out HDx.out rfl (by simp) HVm.out (by first|exact hNBG|exact fun e=>hNBG e.symm) (by first|exact hNBD|exact fun e=>hNBD e.symm) (by first|exact hNGD|exact fun e=>hNGD e.symm)
           refine nx 18 fun K hK=>?_
           go_simp
           refine hK.out _ _ (HXc.out _ _ (HEx.out.alloc _)) (fun hHeldz=>?_)
           try simp only[Act.put,rd]
           refine tk 19 (v:=?fy6) ?gy6 ?_
           case gy6=>(intro w' ⟨s0,s1,s2⟩;go_simp;try with_reducible rfl)
           try simp only[Act.put,rd]
           refine wpAnyH_done (by kernel_rfl) ?_ _
           go_wp2_with fail
           go_meet
           exact⟨_,_,_,_,_,_,_,_,rfl,hlo⟩
     ·as_aux_lemma=>
       refine step_make rfl _ _ 102 4 rfl ib _ Tryz.underlying102 hib hzb rfl hsb V rfl rfl (by rw[hbb];have:=HVn.out;omega) HVm.out (R:=Rx) (B:=w1.heap.size) HEx.out.size (HEx.out.inv.none_of_ge (Nat.le_refl _)) ?_
       intro wy hoy hgy
       have HGx:=Lib.hid hoy.falses
       have HEx:=Lib.hid (HEx.out.grown hgy (fun k hk=>by cases hk))
       refine hK.out _ _ (HXc.out _ _ HEx.out) (fun hHeldn=>?_)
       try simp only[Act.put,rd]
       obtain⟨gG,hgG⟩:∃ y,wx.heap.size=y:=⟨_,rfl⟩
       rw[hgG] at HGx
       try rw[hgG]
       clear hgG hoy hgy hHeld
       obtain⟨wx,rfl⟩:∃ y:World,y=wy:=⟨_,rfl⟩
       have hHeld:=hHeldn
       clear hHeldn
       refine wpAnyH_ready (rs:=[10,15]) (by kernel_rfl) (by simp) (AllReadyH.cons rfl (fun K hK=>?_) (AllReadyH.cons rfl (fun K hK=>?_) AllReadyH.nil))
       ·as_aux_lemma=>
         go_simp
         have HBx:=Lib.hid (OwnI.new3 (R:=Rx) (B:=w1.heap.size) (w:=wx) HEx.out.size (HEx.out.inv.none_of_ge (Nat.le_refl _)) c0 c2 c1)
         have HEx:=Lib.hid (HEx.out.alloc (.cells #[.int .i64 c0,.int .i64 c2,.int .i64 c1] 3))
         have hNBG:wx.heap.size≠gG:=fun e=>by have:=(HGx.out.lt gG rfl).2;omega
         have HGx:=Lib.hid (HGx.out.alloc (.cells #[.int .i64 c0,.int .i64 c2,.int .i64 c1] 3))
         refine hK.out _ _ (HXc.out _ _ HEx.out) (fun hHeldn=>?_)
         try simp only[Act.put,rd]
         obtain⟨wy,hwy⟩:∃ y,wx.alloc (.cells #[.int .i64 c0,.int .i64 c2,.int .i64 c1] 3)=y:=⟨_,rfl⟩
         obtain⟨gB,hgB⟩:∃ y,wx.heap.size=y:=⟨_,rfl⟩
         rw[hwy] at HBx HEx hHeldn HGx
         rw[hgB] at HBx hNBG
         try rw[hwy]
         try rw[hgB]
         clear hwy hgB hHeld
         obtain⟨wx,rfl⟩:∃ y:World,y=wy:=⟨_,rfl⟩
         have hHeld:=hHeldn
         clear hHeldn
         refine nx 15 fun K hK=>?_
         go_simp
         refine (HVs.out _ _ HEx.out).mono ?_
         rintro zz wy ⟨rfl,Ry,hey⟩
         have HEx:=Lib.hid (HEx.out.trans hey)
         have HBx:=Lib.hid (HBx.out.ev hey)
         have HGx:=Lib.hid (HGx.out.ev hey)
         go_simp
         refine hK.out _ _ (HXc.out _ _ HEx.out) (fun hHeldn=>?_)
         try simp only[Act.put,rd]
         clear hey hHeld
         obtain⟨wx,rfl⟩:∃ y:World,y=wy:=⟨_,rfl⟩
         obtain⟨Rx,rfl⟩:∃ y:Reg,y=Ry:=⟨_,rfl⟩
         have hHeld:=hHeldn
         clear hHeldn
         refine nx 16 fun K hK=>?_
         refine step_make rfl _ _ 25 3 rfl ii _ Tryz.underlying25 hii hzi rfl hsi V rfl rfl (by rw[hbi];have:=HVn.out;omega) HVm.out (R:=Rx) (B:=w1.heap.size) HEx.out.size (HEx.out.inv.none_of_ge (Nat.le_refl _)) ?_
         intro wy hoy hgy
         have HDx:=Lib.hid hoy.zeros
         have HEx:=Lib.hid (HEx.out.grown hgy (fun k hk=>by cases hk))
         have hNBD:gB≠wx.heap.size:=fun e=>by have:=(HBx.out.lt gB rfl).2;omega
         have HBx:=Lib.hid (HBx.out.kept hgy (.inr (by simp[Value.ownBlock])))
         have hNGD:gG≠wx.heap.size:=fun e=>by have:=(HGx.out.lt gG rfl).2;omega
         have HGx:=Lib.hid (HGx.out.kept hgy (.inr (by simp[Value.ownBlock])))
         refine hK.out _ _ (HXc.out _ _ HEx.out) (fun hHeldn=>?_)
         try simp only[Act.put,rd]
         obtain⟨gD,hgD⟩:∃ y,wx.heap.size=y:=⟨_,rfl⟩
         rw[hgD] at HDx hNBD hNGD
         try rw[hgD]
         clear hgD hoy hgy hHeld
         obtain⟨wx,rfl⟩:∃ y:World,y=wy:=⟨_,rfl⟩
         have hHeld:=hHeldn
         clear hHeldn
         refine tk 17 (v:=?fz7) ?gz7 ?_
         case gz7=>(intro w' ⟨s0,s1,s2⟩;go_simp;try with_reducible rfl)
         try simp only[Act.put,rd]
         have hlo:=left_new (p:=.pointer (some ⟨bp,0,none⟩)) HEx.out HBx.out HGx.out HDx.out rfl (by simp) HVm.out (by first|exact hNBG|exact fun e=>hNBG e.symm) (by first|exact hNBD|exact fun e=>hNBD e.symm) (by first|exact hNGD|exact fun e=>hNGD e.symm)
         refine nx 18 fun K hK=>?_
         go_simp
         refine hK.out _ _ (HXc.out _ _ (HEx.out.alloc _)) (fun hHeldz=>?_)
         try simp only[Act.put,rd]
         refine tk 19 (v:=?fy7) ?gy7 ?_
         case gy7=>(intro w' ⟨s0,s1,s2⟩;go_simp;try with_reducible rfl)
         try simp only[Act.put,rd]
         refine wpAnyH_done (by kernel_rfl) ?_ _
         go_wp2_with fail
         go_meet
         exact⟨_,_,_,_,_,_,_,_,rfl,hlo⟩
       ·as_aux_lemma=>
         go_simp
         refine (HVs.out _ _ HEx.out).mono ?_
         rintro zz wy ⟨rfl,Ry,hey⟩
         have HEx:=Lib.hid (HEx.out.trans hey)
         have HGx:=Lib.hid (HGx.out.ev hey)
         go_simp
         refine hK.out _ _ (HXc.out _ _ HEx.out) (fun hHeldn=>?_)
         try simp only[Act.put,rd]
         clear hey hHeld
         obtain⟨wx,rfl⟩:∃ y:World,y=wy:=⟨_,rfl⟩
         obtain⟨Rx,rfl⟩:∃ y:Reg,y=Ry:=⟨_,rfl⟩
         have hHeld:=hHeldn
         clear hHeldn
         refine wpAnyH_ready (rs:=[10,16]) (by kernel_rfl) (by simp) (AllReadyH.cons rfl (fun K hK=>?_) (AllReadyH.cons rfl (fun K hK=>?_) AllReadyH.nil))
         ·as_aux_lemma=>
           go_simp
           have HBx:=Lib.hid (OwnI.new3 (R:=Rx) (B:=w1.heap.size) (w:=wx) HEx.out.size (HEx.out.inv.none_of_ge (Nat.le_refl _)) c0 c2 c1)
           have HEx:=Lib.hid (HEx.out.alloc (.cells #[.int .i64 c0,.int .i64 c2,.int .i64 c1] 3))
           have hNBG:wx.heap.size≠gG:=fun e=>by have:=(HGx.out.lt gG rfl).2;omega
           have HGx:=Lib.hid (HGx.out.alloc (.cells #[.int .i64 c0,.int .i64 c2,.int .i64 c1] 3))
           refine hK.out _ _ (HXc.out _ _ HEx.out) (fun hHeldn=>?_)
           try simp only[Act.put,rd]
           obtain⟨wy,hwy⟩:∃ y,wx.alloc (.cells #[.int .i64 c0,.int .i64 c2,.int .i64 c1] 3)=y:=⟨_,rfl⟩
           obtain⟨gB,hgB⟩:∃ y,wx.heap.size=y:=⟨_,rfl⟩
           rw[hwy] at HBx HEx hHeldn HGx
           rw[hgB] at HBx hNBG
           try rw[hwy]
           try rw[hgB]
           clear hwy hgB hHeld
           obtain⟨wx,rfl⟩:∃ y:World,y=wy:=⟨_,rfl⟩
           have hHeld:=hHeldn
           clear hHeldn
           refine nx 16 fun K hK=>?_
           refine step_make rfl _ _ 25 3 rfl ii _ Tryz.underlying25 hii hzi rfl hsi V rfl rfl (by rw[hbi];have:=HVn.out;omega) HVm.out (R:=Rx) (B:=w1.heap.size) HEx.out.size (HEx.out.inv.none_of_ge (Nat.le_refl _)) ?_
           intro wy hoy hgy
           have HDx:=Lib.hid hoy.zeros
           have HEx:=Lib.hid (HEx.out.grown hgy (fun k hk=>by cases hk))
           have hNBD:gB≠wx.heap.size:=fun e=>by have:=(HBx.out.lt gB rfl).2;omega
           have HBx:=Lib.hid (HBx.out.kept hgy (.inr (by simp[Value.ownBlock])))
           have hNGD:gG≠wx.heap.size:=fun e=>by have:=(HGx.out.lt gG rfl).2;omega
           have HGx:=Lib.hid (HGx.out.kept hgy (.inr (by simp[Value.ownBlock])))
           refine hK.out _ _ (HXc.out _ _ HEx.out) (fun hHeldn=>?_)
           try simp only[Act.put,rd]
           obtain⟨gD,hgD⟩:∃ y,wx.heap.size=y:=⟨_,rfl⟩
           rw[hgD] at HDx hNBD hNGD
           try rw[hgD]
           clear hgD hoy hgy hHeld
           obtain⟨wx,rfl⟩:∃ y:World,y=wy:=⟨_,rfl⟩
           have hHeld:=hHeldn
           clear hHeldn
           refine tk 17 (v:=?fz8) ?gz8 ?_
           case gz8=>(intro w' ⟨s0,s1,s2⟩;go_simp;try with_reducible rfl)
           try simp only[Act.put,rd]
           have hlo:=left_new (p:=.pointer (some ⟨bp,0,none⟩)) HEx.out HBx.out HGx.out HDx.out rfl (by simp) HVm.out (by first|exact hNBG|exact fun e=>hNBG e.symm) (by first|exact hNBD|exact fun e=>hNBD e.symm) (by first|exact hNGD|exact fun e=>hNGD e.symm)
           refine nx 18 fun K hK=>?_
           go_simp
           refine hK.out _ _ (HXc.out _ _ (HEx.out.alloc _)) (fun hHeldz=>?_)
           try simp only[Act.put,rd]
           refine tk 19 (v:=?fy8) ?gy8 ?_
           case gy8=>(intro w' ⟨s0,s1,s2⟩;go_simp;try with_reducible rfl)
           try simp only[Act.put,rd]
           refine wpAnyH_done (by kernel_rfl) ?_ _
           go_wp2_with fail
           go_meet
           exact⟨_,_,_,_,_,_,_,_,rfl,hlo⟩
         ·as_aux_lemma=>
           refine step_make rfl _ _ 25 3 rfl ii _ Tryz.underlying25 hii hzi rfl hsi V rfl rfl (by rw[hbi];have:=HVn.out;omega) HVm.out (R:=Rx) (B:=w1.heap.size) HEx.out.size (HEx.out.inv.none_of_ge (Nat.le_refl _)) ?_
           intro wy hoy hgy
           have HDx:=Lib.hid hoy.zeros
           have HEx:=Lib.hid (HEx.out.grown hgy (fun k hk=>by cases hk))
           have hNGD:gG≠wx.heap.size:=fun e=>by have:=(HGx.out.lt gG rfl).2;omega
           have HGx:=Lib.hid (HGx.out.kept hgy (.inr (by simp[Value.ownBlock])))
           refine hK.out _ _ (HXc.out _ _ HEx.out) (fun hHeldn=>?_)
           try simp only[Act.put,rd]
           obtain⟨gD,hgD⟩:∃ y,wx.heap.size=y:=⟨_,rfl⟩
           rw[hgD] at HDx hNGD
           try rw[hgD]
           clear hgD hoy hgy hHeld
           obtain⟨wx,rfl⟩:∃ y:World,y=wy:=⟨_,rfl⟩
           have hHeld:=hHeldn
           clear hHeldn
           refine nx 10 fun K hK=>?_
           go_simp
           have HBx:=Lib.hid (OwnI.new3 (R:=Rx) (B:=w1.heap.size) (w:=wx) HEx.out.size (HEx.out.inv.none_of_ge (Nat.le_refl _)) c0 c2 c1)
           have HEx:=Lib.hid (HEx.out.alloc (.cells #[.int .i64 c0,.int .i64 c2,.int .i64 c1] 3))
           have hNBG:wx.heap.size≠gG:=fun e=>by have:=(HGx.out.lt gG rfl).2;omega
           have HGx:=Lib.hid (HGx.out.alloc (.cells #[.int .i64 c0,.int .i64 c2,.int .i64 c1] 3))
           have hNBD:wx.heap.size≠gD:=fun e=>by have:=(HDx.out.lt gD rfl).2;omega
           have HDx:=Lib.hid (HDx.out.alloc (.cells #[.int .i64 c0,.int .i64 c2,.int .i64 c1] 3))
           refine hK.out _ _ (HXc.out _ _ HEx.out) (fun hHeldn=>?_)
           try simp only[Act.put,rd]
           obtain⟨wy,hwy⟩:∃ y,wx.alloc (.cells #[.int .i64 c0,.int .i64 c2,.int .i64 c1] 3)=y:=⟨_,rfl⟩
           obtain⟨gB,hgB⟩:∃ y,wx.heap.size=y:=⟨_,rfl⟩
           rw[hwy] at HBx HEx hHeldn HGx HDx
           rw[hgB] at HBx hNBG hNBD
           try rw[hwy]
           try rw[hgB]
           clear hwy hgB hHeld
           obtain⟨wx,rfl⟩:∃ y:World,y=wy:=⟨_,rfl⟩
           have hHeld:=hHeldn
           clear hHeldn
           refine tk 17 (v:=?fz9) ?gz9 ?_
           case gz9=>(intro w' ⟨s0,s1,s2⟩;go_simp;try with_reducible rfl)
           try simp only[Act.put,rd]
           have hlo:=left_new (p:=.pointer (some ⟨bp,0,none⟩)) HEx.out HBx.out HGx.out HDx.out rfl (by simp) HVm.out (by first|exact hNBG|exact fun e=>hNBG e.symm) (by first|exact hNBD|exact fun e=>hNBD e.symm) (by first|exact hNGD|exact fun e=>hNGD e.symm)
           refine nx 18 fun K hK=>?_
           go_simp
           refine hK.out _ _ (HXc.out _ _ (HEx.out.alloc _)) (fun hHeldz=>?_)
           try simp only[Act.put,rd]
           refine tk 19 (v:=?fy9) ?gy9 ?_
           case gy9=>(intro w' ⟨s0,s1,s2⟩;go_simp;try with_reducible rfl)
           try simp only[Act.put,rd]
           refine wpAnyH_done (by kernel_rfl) ?_ _
           go_wp2_with fail
           go_meet
           exact⟨_,_,_,_,_,_,_,_,rfl,hlo⟩
     ·as_aux_lemma=>
       go_simp
       refine (HVs.out _ _ HEx.out).mono ?_
       rintro zz wy ⟨rfl,Ry,hey⟩
       have HEx:=Lib.hid (HEx.out.trans hey)
       go_simp
       refine hK.out _ _ (HXc.out _ _ HEx.out) (fun hHeldn=>?_)
       try simp only[Act.put,rd]
       clear hey hHeld
       obtain⟨wx,rfl⟩:∃ y:World,y=wy:=⟨_,rfl⟩
       obtain⟨Rx,rfl⟩:∃ y:Reg,y=Ry:=⟨_,rfl⟩
       have hHeld:=hHeldn
       clear hHeldn
       refine wpAnyH_ready (rs:=[10,13,16]) (by kernel_rfl) (by simp) (AllReadyH.cons rfl (fun K hK=>?_) (AllReadyH.cons rfl (fun K hK=>?_) (AllReadyH.cons rfl (fun K hK=>?_) AllReadyH.nil)))
       ·as_aux_lemma=>
         go_simp
         have HBx:=Lib.hid (OwnI.new3 (R:=Rx) (B:=w1.heap.size) (w:=wx) HEx.out.size (HEx.out.inv.none_of_ge (Nat.le_refl _)) c0 c2 c1)
         have HEx:=Lib.hid (HEx.out.alloc (.cells #[.int .i64 c0,.int .i64 c2,.int .i64 c1] 3))
         refine hK.out _ _ (HXc.out _ _ HEx.out) (fun hHeldn=>?_)
         try simp only[Act.put,rd]
         obtain⟨wy,hwy⟩:∃ y,wx.alloc (.cells #[.int .i64 c0,.int .i64 c2,.int .i64 c1] 3)=y:=⟨_,rfl⟩
         obtain⟨gB,hgB⟩:∃ y,wx.heap.size=y:=⟨_,rfl⟩
         rw[hwy] at HBx HEx hHeldn
         rw[hgB] at HBx
         try rw[hwy]
         try rw[hgB]
         clear hwy hgB hHeld
         obtain⟨wx,rfl⟩:∃ y:World,y=wy:=⟨_,rfl⟩
         have hHeld:=hHeldn
         clear hHeldn
         refine wpAnyH_ready (rs:=[13,16]) (by kernel_rfl) (by simp) (AllReadyH.cons rfl (fun K hK=>?_) (AllReadyH.cons rfl (fun K hK=>?_) AllReadyH.nil))
         ·as_aux_lemma=>
           refine step_make rfl _ _ 102 4 rfl ib _ Tryz.underlying102 hib hzb rfl hsb V rfl rfl (by rw[hbb];have:=HVn.out;omega) HVm.out (R:=Rx) (B:=w1.heap.size) HEx.out.size (HEx.out.inv.none_of_ge (Nat.le_refl _)) ?_
           intro wy hoy hgy
           have HGx:=Lib.hid hoy.falses
           have HEx:=Lib.hid (HEx.out.grown hgy (fun k hk=>by cases hk))
           have hNBG:gB≠wx.heap.size:=fun e=>by have:=(HBx.out.lt gB rfl).2;omega
           have HBx:=Lib.hid (HBx.out.kept hgy (.inr (by simp[Value.ownBlock])))
           refine hK.out _ _ (HXc.out _ _ HEx.out) (fun hHeldn=>?_)
           try simp only[Act.put,rd]
           obtain⟨gG,hgG⟩:∃ y,wx.heap.size=y:=⟨_,rfl⟩
           rw[hgG] at HGx hNBG
           try rw[hgG]
           clear hgG hoy hgy hHeld
           obtain⟨wx,rfl⟩:∃ y:World,y=wy:=⟨_,rfl⟩
           have hHeld:=hHeldn
           clear hHeldn
           refine nx 16 fun K hK=>?_
           refine step_make rfl _ _ 25 3 rfl ii _ Tryz.underlying25 hii hzi rfl hsi V rfl rfl (by rw[hbi];have:=HVn.out;omega) HVm.out (R:=Rx) (B:=w1.heap.size) HEx.out.size (HEx.out.inv.none_of_ge (Nat.le_refl _)) ?_
           intro wy hoy hgy
           have HDx:=Lib.hid hoy.zeros
           have HEx:=Lib.hid (HEx.out.grown hgy (fun k hk=>by cases hk))
           have hNBD:gB≠wx.heap.size:=fun e=>by have:=(HBx.out.lt gB rfl).2;omega
           have HBx:=Lib.hid (HBx.out.kept hgy (.inr (by simp[Value.ownBlock])))
           have hNGD:gG≠wx.heap.size:=fun e=>by have:=(HGx.out.lt gG rfl).2;omega
           have HGx:=Lib.hid (HGx.out.kept hgy (.inr (by simp[Value.ownBlock])))
           refine hK.out _ _ (HXc.out _ _ HEx.out) (fun hHeldn=>?_)
           try simp only[Act.put,rd]
           obtain⟨gD,hgD⟩:∃ y,wx.heap.size=y:=⟨_,rfl⟩
           rw[hgD] at HDx hNBD hNGD
           try rw[hgD]
           clear hgD hoy hgy hHeld
           obtain⟨wx,rfl⟩:∃ y:World,y=wy:=⟨_,rfl⟩
           have hHeld:=hHeldn
           clear hHeldn
           refine tk 17 (v:=?fz10) ?gz10 ?_
           case gz10=>(intro w' ⟨s0,s1,s2⟩;go_simp;try with_reducible rfl)
           try simp only[Act.put,rd]
           have hlo:=left_new (p:=.pointer (some ⟨bp,0,none⟩)) HEx.out HBx.out HGx.out HDx.out rfl (by simp) HVm.out (by first|exact hNBG|exact fun e=>hNBG e.symm) (by first|exact hNBD|exact fun e=>hNBD e.symm) (by first|exact hNGD|exact fun e=>hNGD e.symm)
           refine nx 18 fun K hK=>?_
           go_simp
           refine hK.out _ _ (HXc.out _ _ (HEx.out.alloc _)) (fun hHeldz=>?_)
           try simp only[Act.put,rd]
           refine tk 19 (v:=?fy10) ?gy10 ?_
           case gy10=>(intro w' ⟨s0,s1,s2⟩;go_simp;try with_reducible rfl)
           try simp only[Act.put,rd]
           refine wpAnyH_done (by kernel_rfl) ?_ _
           go_wp2_with fail
           go_meet
           exact⟨_,_,_,_,_,_,_,_,rfl,hlo⟩
         ·as_aux_lemma=>
           refine step_make rfl _ _ 25 3 rfl ii _ Tryz.underlying25 hii hzi rfl hsi V rfl rfl (by rw[hbi];have:=HVn.out;omega) HVm.out (R:=Rx) (B:=w1.heap.size) HEx.out.size (HEx.out.inv.none_of_ge (Nat.le_refl _)) ?_
           intro wy hoy hgy
           have HDx:=Lib.hid hoy.zeros
           have HEx:=Lib.hid (HEx.out.grown hgy (fun k hk=>by cases hk))
           have hNBD:gB≠wx.heap.size:=fun e=>by have:=(HBx.out.lt gB rfl).2;omega
           have HBx:=Lib.hid (HBx.out.kept hgy (.inr (by simp[Value.ownBlock])))
           refine hK.out _ _ (HXc.out _ _ HEx.out) (fun hHeldn=>?_)
           try simp only[Act.put,rd]
           obtain⟨gD,hgD⟩:∃ y,wx.heap.size=y:=⟨_,rfl⟩
           rw[hgD] at HDx hNBD
           try rw[hgD]
           clear hgD hoy hgy hHeld
           obtain⟨wx,rfl⟩:∃ y:World,y=wy:=⟨_,rfl⟩
           have hHeld:=hHeldn
           clear hHeldn
           refine nx 13 fun K hK=>?_
           refine step_make rfl _ _ 102 4 rfl ib _ Tryz.underlying102 hib hzb rfl hsb V rfl rfl (by rw[hbb];have:=HVn.out;omega) HVm.out (R:=Rx) (B:=w1.heap.size) HEx.out.size (HEx.out.inv.none_of_ge (Nat.le_refl _)) ?_
           intro wy hoy hgy
           have HGx:=Lib.hid hoy.falses
           have HEx:=Lib.hid (HEx.out.grown hgy (fun k hk=>by cases hk))
           have hNBG:gB≠wx.heap.size:=fun e=>by have:=(HBx.out.lt gB rfl).2;omega
           have HBx:=Lib.hid (HBx.out.kept hgy (.inr (by simp[Value.ownBlock])))
           have hNGD:wx.heap.size≠gD:=fun e=>by have:=(HDx.out.lt gD rfl).2;omega
           have HDx:=Lib.hid (HDx.out.kept hgy (.inr (by simp[Value.ownBlock])))
           refine hK.out _ _ (HXc.out _ _ HEx.out) (fun hHeldn=>?_)
           try simp only[Act.put,rd]
           obtain⟨gG,hgG⟩:∃ y,wx.heap.size=y:=⟨_,rfl⟩
           rw[hgG] at HGx hNBG hNGD
           try rw[hgG]
           clear hgG hoy hgy hHeld
           obtain⟨wx,rfl⟩:∃ y:World,y=wy:=⟨_,rfl⟩
           have hHeld:=hHeldn
           clear hHeldn
           refine tk 17 (v:=?fz11) ?gz11 ?_
           case gz11=>(intro w' ⟨s0,s1,s2⟩;go_simp;try with_reducible rfl)
           try simp only[Act.put,rd]
           have hlo:=left_new (p:=.pointer (some ⟨bp,0,none⟩)) HEx.out HBx.out HGx.out HDx.out rfl (by simp) HVm.out (by first|exact hNBG|exact fun e=>hNBG e.symm) (by first|exact hNBD|exact fun e=>hNBD e.symm) (by first|exact hNGD|exact fun e=>hNGD e.symm)
           refine nx 18 fun K hK=>?_
           go_simp
           refine hK.out _ _ (HXc.out _ _ (HEx.out.alloc _)) (fun hHeldz=>?_)
           try simp only[Act.put,rd]
           refine tk 19 (v:=?fy11) ?gy11 ?_
           case gy11=>(intro w' ⟨s0,s1,s2⟩;go_simp;try with_reducible rfl)
           try simp only[Act.put,rd]
           refine wpAnyH_done (by kernel_rfl) ?_ _
           go_wp2_with fail
           go_meet
           exact⟨_,_,_,_,_,_,_,_,rfl,hlo⟩
       ·as_aux_lemma=>
         refine step_make rfl _ _ 102 4 rfl ib _ Tryz.underlying102 hib hzb rfl hsb V rfl rfl (by rw[hbb];have:=HVn.out;omega) HVm.out (R:=Rx) (B:=w1.heap.size) HEx.out.size (HEx.out.inv.none_of_ge (Nat.le_refl _)) ?_
         intro wy hoy hgy
         have HGx:=Lib.hid hoy.falses
         have HEx:=Lib.hid (HEx.out.grown hgy (fun k hk=>by cases hk))
         refine hK.out _ _ (HXc.out _ _ HEx.out) (fun hHeldn=>?_)
         try simp only[Act.put,rd]
         obtain⟨gG,hgG⟩:∃ y,wx.heap.size=y:=⟨_,rfl⟩
         rw[hgG] at HGx
         try rw[hgG]
         clear hgG hoy hgy hHeld
         obtain⟨wx,rfl⟩:∃ y:World,y=wy:=⟨_,rfl⟩
         have hHeld:=hHeldn
         clear hHeldn
         refine wpAnyH_ready (rs:=[10,16]) (by kernel_rfl) (by simp) (AllReadyH.cons rfl (fun K hK=>?_) (AllReadyH.cons rfl (fun K hK=>?_) AllReadyH.nil))
         ·as_aux_lemma=>
           go_simp
           have HBx:=Lib.hid (OwnI.new3 (R:=Rx) (B:=w1.heap.size) (w:=wx) HEx.out.size (HEx.out.inv.none_of_ge (Nat.le_refl _)) c0 c2 c1)
           have HEx:=Lib.hid (HEx.out.alloc (.cells #[.int .i64 c0,.int .i64 c2,.int .i64 c1] 3))
           have hNBG:wx.heap.size≠gG:=fun e=>by have:=(HGx.out.lt gG rfl).2;omega
           have HGx:=Lib.hid (HGx.out.alloc (.cells #[.int .i64 c0,.int .i64 c2,.int .i64 c1] 3))
           refine hK.out _ _ (HXc.out _ _ HEx.out) (fun hHeldn=>?_)
           try simp only[Act.put,rd]
           obtain⟨wy,hwy⟩:∃ y,wx.alloc (.cells #[.int .i64 c0,.int .i64 c2,.int .i64 c1] 3)=y:=⟨_,rfl⟩
           obtain⟨gB,hgB⟩:∃ y,wx.heap.size=y:=⟨_,rfl⟩
           rw[hwy] at HBx HEx hHeldn HGx
           rw[hgB] at HBx hNBG
           try rw[hwy]
           try rw[hgB]
           clear hwy hgB hHeld
           obtain⟨wx,rfl⟩:∃ y:World,y=wy:=⟨_,rfl⟩
           have hHeld:=hHeldn
           clear hHeldn
           refine nx 16 fun K hK=>?_
           refine step_make rfl _ _ 25 3 rfl ii _ Tryz.underlying25 hii hzi rfl hsi V rfl rfl (by rw[hbi];have:=HVn.out;omega) HVm.out (R:=Rx) (B:=w1.heap.size) HEx.out.size (HEx.out.inv.none_of_ge (Nat.le_refl _)) ?_
           intro wy hoy hgy
           have HDx:=Lib.hid hoy.zeros
           have HEx:=Lib.hid (HEx.out.grown hgy (fun k hk=>by cases hk))
           have hNBD:gB≠wx.heap.size:=fun e=>by have:=(HBx.out.lt gB rfl).2;omega
           have HBx:=Lib.hid (HBx.out.kept hgy (.inr (by simp[Value.ownBlock])))
           have hNGD:gG≠wx.heap.size:=fun e=>by have:=(HGx.out.lt gG rfl).2;omega
           have HGx:=Lib.hid (HGx.out.kept hgy (.inr (by simp[Value.ownBlock])))
           refine hK.out _ _ (HXc.out _ _ HEx.out) (fun hHeldn=>?_)
           try simp only[Act.put,rd]
           obtain⟨gD,hgD⟩:∃ y,wx.heap.size=y:=⟨_,rfl⟩
           rw[hgD] at HDx hNBD hNGD
           try rw[hgD]
           clear hgD hoy hgy hHeld
           obtain⟨wx,rfl⟩:∃ y:World,y=wy:=⟨_,rfl⟩
           have hHeld:=hHeldn
           clear hHeldn
           refine tk 17 (v:=?fz12) ?gz12 ?_
           case gz12=>(intro w' ⟨s0,s1,s2⟩;go_simp;try with_reducible rfl)
           try simp only[Act.put,rd]
           have hlo:=left_new (p:=.pointer (some ⟨bp,0,none⟩)) HEx.out HBx.out HGx.out HDx.out rfl (by simp) HVm.out (by first|exact hNBG|exact fun e=>hNBG e.symm) (by first|exact hNBD|exact fun e=>hNBD e.symm) (by first|exact hNGD|exact fun e=>hNGD e.symm)
           refine nx 18 fun K hK=>?_
           go_simp
           refine hK.out _ _ (HXc.out _ _ (HEx.out.alloc _)) (fun hHeldz=>?_)
           try simp only[Act.put,rd]
           refine tk 19 (v:=?fy12) ?gy12 ?_
           case gy12=>(intro w' ⟨s0,s1,s2⟩;go_simp;try with_reducible rfl)
           try simp only[Act.put,rd]
           refine wpAnyH_done (by kernel_rfl) ?_ _
           go_wp2_with fail
           go_meet
           exact⟨_,_,_,_,_,_,_,_,rfl,hlo⟩
         ·as_aux_lemma=>
           refine step_make rfl _ _ 25 3 rfl ii _ Tryz.underlying25 hii hzi rfl hsi V rfl rfl (by rw[hbi];have:=HVn.out;omega) HVm.out (R:=Rx) (B:=w1.heap.size) HEx.out.size (HEx.out.inv.none_of_ge (Nat.le_refl _)) ?_
           intro wy hoy hgy
           have HDx:=Lib.hid hoy.zeros
           have HEx:=Lib.hid (HEx.out.grown hgy (fun k hk=>by cases hk))
           have hNGD:gG≠wx.heap.size:=fun e=>by have:=(HGx.out.lt gG rfl).2;omega
           have HGx:=Lib.hid (HGx.out.kept hgy (.inr (by simp[Value.ownBlock])))
           refine hK.out _ _ (HXc.out _ _ HEx.out) (fun hHeldn=>?_)
           try simp only[Act.put,rd]
           obtain⟨gD,hgD⟩:∃ y,wx.heap.size=y:=⟨_,rfl⟩
           rw[hgD] at HDx hNGD
           try rw[hgD]
           clear hgD hoy hgy hHeld
           obtain⟨wx,rfl⟩:∃ y:World,y=wy:=⟨_,rfl⟩
           have hHeld:=hHeldn
           clear hHeldn
           refine nx 10 fun K hK=>?_
           go_simp
           have HBx:=Lib.hid (OwnI.new3 (R:=Rx) (B:=w1.heap.size) (w:=wx) HEx.out.size (HEx.out.inv.none_of_ge (Nat.le_refl _)) c0 c2 c1)
           have HEx:=Lib.hid (HEx.out.alloc (.cells #[.int .i64 c0,.int .i64 c2,.int .i64 c1] 3))
           have hNBG:wx.heap.size≠gG:=fun e=>by have:=(HGx.out.lt gG rfl).2;omega
           have HGx:=Lib.hid (HGx.out.alloc (.cells #[.int .i64 c0,.int .i64 c2,.int .i64 c1] 3))
           have hNBD:wx.heap.size≠gD:=fun e=>by have:=(HDx.out.lt gD rfl).2;omega
           have HDx:=Lib.hid (HDx.out.alloc (.cells #[.int .i64 c0,.int .i64 c2,.int .i64 c1] 3))
           refine hK.out _ _ (HXc.out _ _ HEx.out) (fun hHeldn=>?_)
           try simp only[Act.put,rd]
           obtain⟨wy,hwy⟩:∃ y,wx.alloc (.cells #[.int .i64 c0,.int .i64 c2,.int .i64 c1] 3)=y:=⟨_,rfl⟩
           obtain⟨gB,hgB⟩:∃ y,wx.heap.size=y:=⟨_,rfl⟩
           rw[hwy] at HBx HEx hHeldn HGx HDx
           rw[hgB] at HBx hNBG hNBD
           try rw[hwy]
           try rw[hgB]
           clear hwy hgB hHeld
           obtain⟨wx,rfl⟩:∃ y:World,y=wy:=⟨_,rfl⟩
           have hHeld:=hHeldn
           clear hHeldn
           refine tk 17 (v:=?fz13) ?gz13 ?_
           case gz13=>(intro w' ⟨s0,s1,s2⟩;go_simp;try with_reducible rfl)
           try simp only[Act.put,rd]
           have hlo:=left_new (p:=.pointer (some ⟨bp,0,none⟩)) HEx.out HBx.out HGx.out HDx.out rfl (by simp) HVm.out (by first|exact hNBG|exact fun e=>hNBG e.symm) (by first|exact hNBD|exact fun e=>hNBD e.symm) (by first|exact hNGD|exact fun e=>hNGD e.symm)
           refine nx 18 fun K hK=>?_
           go_simp
           refine hK.out _ _ (HXc.out _ _ (HEx.out.alloc _)) (fun hHeldz=>?_)
           try simp only[Act.put,rd]
           refine tk 19 (v:=?fy13) ?gy13 ?_
           case gy13=>(intro w' ⟨s0,s1,s2⟩;go_simp;try with_reducible rfl)
           try simp only[Act.put,rd]
           refine wpAnyH_done (by kernel_rfl) ?_ _
           go_wp2_with fail
           go_meet
           exact⟨_,_,_,_,_,_,_,_,rfl,hlo⟩
       ·as_aux_lemma=>
         refine step_make rfl _ _ 25 3 rfl ii _ Tryz.underlying25 hii hzi rfl hsi V rfl rfl (by rw[hbi];have:=HVn.out;omega) HVm.out (R:=Rx) (B:=w1.heap.size) HEx.out.size (HEx.out.inv.none_of_ge (Nat.le_refl _)) ?_
         intro wy hoy hgy
         have HDx:=Lib.hid hoy.zeros
         have HEx:=Lib.hid (HEx.out.grown hgy (fun k hk=>by cases hk))
         refine hK.out _ _ (HXc.out _ _ HEx.out) (fun hHeldn=>?_)
         try simp only[Act.put,rd]
         obtain⟨gD,hgD⟩:∃ y,wx.heap.size=y:=⟨_,rfl⟩
         rw[hgD] at HDx
         try rw[hgD]
         clear hgD hoy hgy hHeld
         obtain⟨wx,rfl⟩:∃ y:World,y=wy:=⟨_,rfl⟩
         have hHeld:=hHeldn
         clear hHeldn
         refine wpAnyH_ready (rs:=[10,13]) (by kernel_rfl) (by simp) (AllReadyH.cons rfl (fun K hK=>?_) (AllReadyH.cons rfl (fun K hK=>?_) AllReadyH.nil))
         ·as_aux_lemma=>
           go_simp
           have HBx:=Lib.hid (OwnI.new3 (R:=Rx) (B:=w1.heap.size) (w:=wx) HEx.out.size (HEx.out.inv.none_of_ge (Nat.le_refl _)) c0 c2 c1)
           have HEx:=Lib.hid (HEx.out.alloc (.cells #[.int .i64 c0,.int .i64 c2,.int .i64 c1] 3))
           have hNBD:wx.heap.size≠gD:=fun e=>by have:=(HDx.out.lt gD rfl).2;omega
           have HDx:=Lib.hid (HDx.out.alloc (.cells #[.int .i64 c0,.int .i64 c2,.int .i64 c1] 3))
           refine hK.out _ _ (HXc.out _ _ HEx.out) (fun hHeldn=>?_)
           try simp only[Act.put,rd]
           obtain⟨wy,hwy⟩:∃ y,wx.alloc (.cells #[.int .i64 c0,.int .i64 c2,.int .i64 c1] 3)=y:=⟨_,rfl⟩
           obtain⟨gB,hgB⟩:∃ y,wx.heap.size=y:=⟨_,rfl⟩
           rw[hwy] at HBx HEx hHeldn HDx
           rw[hgB] at HBx hNBD
           try rw[hwy]
           try rw[hgB]
           clear hwy hgB hHeld
           obtain⟨wx,rfl⟩:∃ y:World,y=wy:=⟨_,rfl⟩
           have hHeld:=hHeldn
           clear hHeldn
           refine nx 13 fun K hK=>?_
           refine step_make rfl _ _ 102 4 rfl ib _ Tryz.underlying102 hib hzb rfl hsb V rfl rfl (by rw[hbb];have:=HVn.out;omega) HVm.out (R:=Rx) (B:=w1.heap.size) HEx.out.size (HEx.out.inv.none_of_ge (Nat.le_refl _)) ?_
           intro wy hoy hgy
           have HGx:=Lib.hid hoy.falses
           have HEx:=Lib.hid (HEx.out.grown hgy (fun k hk=>by cases hk))
           have hNBG:gB≠wx.heap.size:=fun e=>by have:=(HBx.out.lt gB rfl).2;omega
           have HBx:=Lib.hid (HBx.out.kept hgy (.inr (by simp[Value.ownBlock])))
           have hNGD:wx.heap.size≠gD:=fun e=>by have:=(HDx.out.lt gD rfl).2;omega
           have HDx:=Lib.hid (HDx.out.kept hgy (.inr (by simp[Value.ownBlock])))
           refine hK.out _ _ (HXc.out _ _ HEx.out) (fun hHeldn=>?_)
           try simp only[Act.put,rd]
           obtain⟨gG,hgG⟩:∃ y,wx.heap.size=y:=⟨_,rfl⟩
           rw[hgG] at HGx hNBG hNGD
           try rw[hgG]
           clear hgG hoy hgy hHeld
           obtain⟨wx,rfl⟩:∃ y:World,y=wy:=⟨_,rfl⟩
           have hHeld:=hHeldn
           clear hHeldn
           refine tk 17 (v:=?fz14) ?gz14 ?_
           case gz14=>(intro w' ⟨s0,s1,s2⟩;go_simp;try with_reducible rfl)
           try simp only[Act.put,rd]
           have hlo:=left_new (p:=.pointer (some ⟨bp,0,none⟩)) HEx.out HBx.out HGx.out HDx.out rfl (by simp) HVm.out (by first|exact hNBG|exact fun e=>hNBG e.symm) (by first|exact hNBD|exact fun e=>hNBD e.symm) (by first|exact hNGD|exact fun e=>hNGD e.symm)
           refine nx 18 fun K hK=>?_
           go_simp
           refine hK.out _ _ (HXc.out _ _ (HEx.out.alloc _)) (fun hHeldz=>?_)
           try simp only[Act.put,rd]
           refine tk 19 (v:=?fy14) ?gy14 ?_
           case gy14=>(intro w' ⟨s0,s1,s2⟩;go_simp;try with_reducible rfl)
           try simp only[Act.put,rd]
           refine wpAnyH_done (by kernel_rfl) ?_ _
           go_wp2_with fail
           go_meet
           exact⟨_,_,_,_,_,_,_,_,rfl,hlo⟩
         ·as_aux_lemma=>
           refine step_make rfl _ _ 102 4 rfl ib _ Tryz.underlying102 hib hzb rfl hsb V rfl rfl (by rw[hbb];have:=HVn.out;omega) HVm.out (R:=Rx) (B:=w1.heap.size) HEx.out.size (HEx.out.inv.none_of_ge (Nat.le_refl _)) ?_
           intro wy hoy hgy
           have HGx:=Lib.hid hoy.falses
           have HEx:=Lib.hid (HEx.out.grown hgy (fun k hk=>by cases hk))
           have hNGD:wx.heap.size≠gD:=fun e=>by have:=(HDx.out.lt gD rfl).2;omega
           have HDx:=Lib.hid (HDx.out.kept hgy (.inr (by simp[Value.ownBlock])))
           refine hK.out _ _ (HXc.out _ _ HEx.out) (fun hHeldn=>?_)
           try simp only[Act.put,rd]
           obtain⟨gG,hgG⟩:∃ y,wx.heap.size=y:=⟨_,rfl⟩
           rw[hgG] at HGx hNGD
           try rw[hgG]
           clear hgG hoy hgy hHeld
           obtain⟨wx,rfl⟩:∃ y:World,y=wy:=⟨_,rfl⟩
           have hHeld:=hHeldn
           clear hHeldn
           refine nx 10 fun K hK=>?_
           go_simp
           have HBx:=Lib.hid (OwnI.new3 (R:=Rx) (B:=w1.heap.size) (w:=wx) HEx.out.size (HEx.out.inv.none_of_ge (Nat.le_refl _)) c0 c2 c1)
           have HEx:=Lib.hid (HEx.out.alloc (.cells #[.int .i64 c0,.int .i64 c2,.int .i64 c1] 3))
           have hNBG:wx.heap.size≠gG:=fun e=>by have:=(HGx.out.lt gG rfl).2;omega
           have HGx:=Lib.hid (HGx.out.alloc (.cells #[.int .i64 c0,.int .i64 c2,.int .i64 c1] 3))
           have hNBD:wx.heap.size≠gD:=fun e=>by have:=(HDx.out.lt gD rfl).2;omega
           have HDx:=Lib.hid (HDx.out.alloc (.cells #[.int .i64 c0,.int .i64 c2,.int .i64 c1] 3))
           refine hK.out _ _ (HXc.out _ _ HEx.out) (fun hHeldn=>?_)
           try simp only[Act.put,rd]
           obtain⟨wy,hwy⟩:∃ y,wx.alloc (.cells #[.int .i64 c0,.int .i64 c2,.int .i64 c1] 3)=y:=⟨_,rfl⟩
           obtain⟨gB,hgB⟩:∃ y,wx.heap.size=y:=⟨_,rfl⟩
           rw[hwy] at HBx HEx hHeldn HGx HDx
           rw[hgB] at HBx hNBG hNBD
           try rw[hwy]
           try rw[hgB]
           clear hwy hgB hHeld
           obtain⟨wx,rfl⟩:∃ y:World,y=wy:=⟨_,rfl⟩
           have hHeld:=hHeldn
           clear hHeldn
           refine tk 17 (v:=?fz15) ?gz15 ?_
           case gz15=>(intro w' ⟨s0,s1,s2⟩;go_simp;try with_reducible rfl)
           try simp only[Act.put,rd]
           have hlo:=left_new (p:=.pointer (some ⟨bp,0,none⟩)) HEx.out HBx.out HGx.out HDx.out rfl (by simp) HVm.out (by first|exact hNBG|exact fun e=>hNBG e.symm) (by first|exact hNBD|exact fun e=>hNBD e.symm) (by first|exact hNGD|exact fun e=>hNGD e.symm)
           refine nx 18 fun K hK=>?_
           go_simp
           refine hK.out _ _ (HXc.out _ _ (HEx.out.alloc _)) (fun hHeldz=>?_)
           try simp only[Act.put,rd]
           refine tk 19 (v:=?fy15) ?gy15 ?_
           case gy15=>(intro w' ⟨s0,s1,s2⟩;go_simp;try with_reducible rfl)
           try simp only[Act.put,rd]
           refine wpAnyH_done (by kernel_rfl) ?_ _
           go_wp2_with fail
           go_meet
           exact⟨_,_,_,_,_,_,_,_,rfl,hlo⟩
 case rest=>
  obtain⟨b,ab,ag,ad,R4,cb,cg,cd,rfl,hlo⟩:=hcut
  have HLO:=Lib.hid hlo
  have HE4:=Lib.hid hlo.ev
  clear hlo
  as_aux_lemma=>
   go_wp2_with fail
   refine (HDt.out _ _ (HE1.out.trans HE4.out)).mono ?_
   rintro e w5 ⟨rfl,rfl⟩
   go_wp2_with fail
   go_loopg [39] s.length (fun g v39 wr=>∃ (k:Nat) (R5:Reg) (D:List Int),k≤s.length∧s.length-k≤g∧v39=.int .i64 (k:Int)∧LeftOwn R1 w1 R5 wr b (.pointer (some ⟨bp,0,none⟩)) ab 3 cb ag cg ad cd V [c0,c2,c1] (fun _=>false) D∧∀ j,j<k→∃ d:Nat,nth D (vtx s j)=(d:Int)∧d<s.length∧vtx s d=vtx s j)
   case atStart=>exact⟨0,R4,_,Nat.zero_le _,by omega,rfl,HLO.out,fun j hj=>by omega⟩
   case round=>
    obtain⟨k,R5,D,hk,hg,rfl,hlo5,hdn⟩:=hrel
    have HLO5:=Lib.hid hlo5
    have HE5:=Lib.hid hlo5.ev
    have HDn:=Lib.hid hdn
    clear hlo5 hdn
    by_cases hil:k<s.length
    ·have hvk:vtx s k<V:=by rw[←hV];exact vtx_lt h.perm hil
     have HV1:=Lib.hid (fun R' w' (he:Ev R w R' w')=>HVx.out R' w' he k hil)
     obtain⟨gD,rfl,_⟩:=HLO5.out.dar.headAt HLO5.out.dl (i:=vtx s k) hvk
     have HDs:=Lib.hid (show ∀ j,j<k+1→∃ d:Nat,nth (D.set (vtx s k) (k:Int)) (vtx s j)=(d:Int)∧d<s.length∧vtx s d=vtx s j from fun j hj=>by
      have hDl:=HLO5.out.dl
      by_cases e:vtx s k=vtx s j
      ·refine⟨k,?_,hil,e⟩
       unfold nth
       rw[List.getD_eq_getElem?_getD,←e,List.getElem?_set_self (by omega)]
       rfl
      ·have hjk:j<k:=by
        rcases Nat.lt_or_ge j k with q|q
        ·exact q
        ·exact absurd (by rw[show j=k by omega]) e
       obtain⟨d,d1,d2,d3⟩:=HDn.out j hjk
       refine⟨d,?_,d2,d3⟩
       rw[←d1]
       unfold nth
       rw[List.getD_eq_getElem?_getD,List.getElem?_set_ne e,←List.getD_eq_getElem?_getD])
     obtain⟨vk,hvk'⟩:∃ vk,vtx s k=vk:=⟨_,rfl⟩
     rw[hvk'] at hvk HV1 HDs
     clear hvk'
     go_wp2_with fail
     have HLd:=Lib.hid (HLO5.out.step ((Ev.refl HE5.out.inv).drew))
     refine wp_region_held_drew (S:=(fun w':World=>w'.cell? ⟨b,3,none⟩=some (.slice (some ⟨gD,0,none⟩) V cd))) (by kernel_rfl) (cells_at HLd.out.box 3) (fun hHeld=>?_)
     refine tk 0 (v:=?fkf_0) ?gkf_0 ?_
     case gkf_0=>(intro w' s0;go_simp;try with_reducible rfl)
     try simp only[Act.put,rd]
     refine tk 1 (v:=?fkf_1) ?gkf_1 ?_
     case gkf_1=>(intro w' s0;go_simp;try with_reducible rfl)
     try simp only[Act.put,rd]
     refine tk 2 (v:=?fkf_2) ?gkf_2 ?_
     case gkf_2=>(intro w' s0;go_simp;try with_reducible rfl)
     try simp only[Act.put,rd]
     refine tk 3 (v:=?fkf_3) ?gkf_3 ?_
     case gkf_3=>(intro w' s0;go_simp;try with_reducible rfl)
     try simp only[Act.put,rd]
     refine tk 4 (v:=?fkf_4) ?gkf_4 ?_
     case gkf_4=>(intro w' s0;go_simp;try with_reducible rfl)
     try simp only[Act.put,rd]
     refine tk 5 (v:=?fkf_5) ?gkf_5 ?_
     case gkf_5=>(intro w' s0;go_simp;try with_reducible rfl)
     try simp only[Act.put,rd]
     refine tk 7 (v:=?fkf_7) ?gkf_7 ?_
     case gkf_7=>(intro w' s0;go_simp;try with_reducible rfl)
     try simp only[Act.put,rd]
     refine nx 6 fun K hK=>?_
     go_simp
     refine (HV1.out _ _ (HE1.out.trans HLd.out.ev)).mono ?_
     rintro zz w6 ⟨rfl,R6,he6⟩
     have HL6:=Lib.hid (HLd.out.step he6)
     clear he6
     go_simp
     refine hK.out _ _ (cells_at HL6.out.box 3) (fun hHeld2=>?_)
     try simp only[Act.put,rd]
     clear hHeld
     refine tk 8 (v:=?fkf_8) ?gkf_8 ?_
     case gkf_8=>(intro w' s0;go_simp;try with_reducible rfl)
     try simp only[Act.put,rd]
     obtain⟨_,e,_,_,hcd,hfd⟩:=HL6.out.dar.headAt HL6.out.dl (i:=vk) hvk
     cases e
     have HL7:=Lib.hid (HL6.out.dart rfl hvk (k:Int))
     refine nx 9 fun K hK=>?_
     go_simp
     refine hK.out _ _ (cells_at HL7.out.box 3) (fun hHeld3=>?_)
     try simp only[Act.put,rd]
     refine wpAnyH_done (by kernel_rfl) ?_ _
     clear hcd hfd hHeld2 hHeld3
     go_wp2_with fail
     go_roundg (s.length-(k+1))
     case measure=>omega
     case rel=>exact⟨k+1,R6,_,by omega,by omega,by go_num,HL7.out,HDs.out⟩
    ·obtain rfl:k=s.length:=by omega
     have HDa:=Lib.hid (show DartsOf s D from⟨by rw[HLO5.out.dl,hV],fun v hv=>by
      rw[HLO5.out.dl] at hv
      obtain⟨x,hx,ex⟩:=h.named (v:=v) (by rw[hV];exact hv)
      have ev:vtx s x=v:=by unfold vtx;rw[ex];rfl
      obtain⟨d,d1,d2,d3⟩:=HDn.out x hx
      exact⟨d,by rw[←ev];exact d1,d2,by rw[d3,ev]⟩⟩)
     clear HDn HLO HE4
     as_aux_lemma=>
      have HB0:=Lib.hid (begA_names h hr)
      rw[hc0,hc1,hc2] at HB0
      go_wp2_with fail
      go_loopg [8] V (fun g v8 wr=>∃ (A:List Nat) (out:List Int) (ao:Option Addr) (no co:Nat) (ab1:Option Addr) (n1 cb1:Nat) (R6:Reg) (Gn:Nat→Bool),V-out.length≤g∧v8=.slice ao no co∧ShRun s r A out∧OrdTo s r A out∧n1=A.length+1∧LeftOwn R1 w1 R6 wr b (.pointer (some ⟨bp,0,none⟩)) ab1 n1 cb1 ag cg ad cd V (vtL s (A ++ [r ^^^ 1])) Gn D∧(∀ d,d<s.length→(Gn (vtx s d)=true↔nth (namesL s) d∈out))∧out.length=no∧OwnI R6 w1.heap.size 3 wr (.slice ao no co) out ∧
       (∀ k,(Value.slice ao no co).ownBlock=some k→k≠b∧(Value.slice ab1 n1 cb1).ownBlock≠some k∧(Value.slice ag V cg).ownBlock≠some k∧(Value.slice ad V cd).ownBlock≠some k))
      case atStart=>exact⟨begA s r,[],none,0,0,ab,3,cb,R5,fun _=>false,by simp,rfl,ShRun.start h hr,OrdTo.start h hr,rfl,by rw[show vtL s (begA s r ++ [r ^^^ 1])=[c0,c2,c1] from HB0.out];exact HLO5.out,fun d _=>by simp,rfl,OwnI.nil _ _ _ _,fun k hk=>by simp[Value.ownBlock] at hk⟩
      case round=>
       obtain⟨A,out,ao,no,co,ab1,n1,cb1,R6,Gn,hg,rfl,hRn,hOt,rfl,hlo,hGn,hno,hou,hap⟩:=hrel
       have HRn:=Lib.hid hRn
       have HOt:=Lib.hid hOt
       have HLo:=Lib.hid hlo
       have HGn:=Lib.hid hGn
       have HNo:=Lib.hid hno
       have HOu:=Lib.hid hou
       have HAp:=Lib.hid hap
       have hol:=hRn.len h hr
       rw[hV] at hol
       have hbd:=hlo.box
       have y1:=cells_at hbd 1
       clear hRn hOt hlo hGn hno hou hap
       by_cases h2:2≤A.length
       ·as_aux_lemma=>
         have hgt:((A.length+1:Nat):Int) > 2:=by omega
         obtain⟨hfi,hfm⟩:=HRn.out.first h hr h2
         obtain⟨k,hk⟩:∃ k,firstI s (r ^^^ 1) A=k:=⟨_,rfl⟩
         rw[hk] at hfi hfm
         have hAn:A.length+1≤V:=by
          have:=nodup_le (V:=(sizesL s).length) HRn.out.shl.one (fun x hx=>by
           obtain⟨y,hy,rfl⟩:=List.mem_map.1 hx
           exact h.name (HRn.out.mem h hr hy).1)
          rw[hV] at this
          simpa using this
         have hVn:=HVn.out
         have hfi2:k<A.length:=hfi.2.1
         have HFi:=Lib.hid (first_any R6 wr HLo.out.ev.inv b k hfi.1 (by omega) (fun i=>FreeI' s (r ^^^ 1) A i) hfi (fun l _ hl=>hfm l hl) (fun R' w' he i hi0 hik=>by
          have hiA:i<A.length:=by omega
          have hqm:=HRn.out.getD_mem h hr hiA
          exact free_any R' w' he.inv _ s (r:Int) (HMp.out _ _ (HE1.out.trans (HLo.out.ev.trans he))) h b _ Gn D (by rw[hV];exact HLo.out.left.ev he) HDa.out
           (by rw[HRn.out.border_len h hr];omega) (fun d hd hm=>by
            cases e:Gn (vtx s d)
            ·rfl
            ·obtain⟨y,hy,ey⟩:=List.mem_map.1 hm
             exact absurd ((HGn.out d hd).1 e) (by rw[←ey];exact (HRn.out.mem h hr hy).2))
           i (by rw[HRn.out.border_len h hr];omega) (A.getD i 0) (HRn.out.mem h hr hqm).1 (HRn.out.border_at h hr hiA) _ (fun d0 h0 e0=>HRn.out.free_ok h hr hi0 hiA h0 e0)))
         have HFr:=Lib.hid hfi
         have HFm:=Lib.hid hfm
         clear hfi hfm hk
         go_wp2_with fail
         refine HFi.out.mono ?_
         rintro e w7 ⟨rfl,R7,he7⟩
         have HL7:=Lib.hid (HLo.out.step he7)
         have HO7:=Lib.hid (HOu.out.ev he7)
         clear he7
         obtain⟨gB,rfl,_,_,hcb,_⟩:=HL7.out.bor.headAt HL7.out.bl (i:=k) (by omega)
         rw[HRn.out.border_at h hr hfi2] at hcb
         obtain⟨q,hq⟩:∃ q,A.getD k 0=q:=⟨_,rfl⟩
         have HQ:=Lib.hid hq
         rw[hq] at hcb
         obtain⟨vq,hvq⟩:∃ vq,nth (namesL s) q=vq:=⟨_,rfl⟩
         have HVq:=Lib.hid hvq
         rw[hvq] at hcb
         have hbd7:=HL7.out.box
         have y7:=cells_at hbd7 1
         have HOa:=Lib.hid (HO7.out.alloc (.cells #[.int .i64 vq] 3))
         have HLa:=Lib.hid (HL7.out.step ((Ev.refl HL7.out.ev.inv).alloc (.cells #[.int .i64 vq] 3)))
         clear hq hvq y1 hbd hbd7 HFi
         go_upto_region 14 with (at_builtin;refine wpList_app_int (R:=R7) (B:=w1.heap.size) rfl _ _ rfl HOa.out rfl ⟨w7.heap.size,0,none⟩ 1 vq rfl ?h1a ?h1b ?h1c ?h1d ?_)
         case h1a=>simp
         case h1b=>omega
         case h1c=>exact HLa.out.ev.size
         case h1d=>exact fun q hq=>HLa.out.ev.inv.none_of_ge hq
         intro v' w9 ho9 hg9 hs9
         obtain⟨a9,c9,e9,_⟩:=ho9.ints.open
         obtain⟨n9,hn9⟩:∃ n9,(out ++ [vq]).length=n9:=⟨_,rfl⟩
         rw[hn9] at e9
         subst e9
         have HL9:=Lib.hid (HLa.out.beside (HLa.out.ev.app HOa.out (Nat.le_refl _) hg9) hg9 (fun e=>(HAp.out b e).1 rfl) (dis_ne fun k hk=>(HAp.out k hk).2.1) (dis_ne fun k hk=>(HAp.out k hk).2.2.1) (dis_ne fun k hk=>(HAp.out k hk).2.2.2))
         have HO9:=Lib.hid ho9
         have HN9:=Lib.hid hn9
         have HAp9:Hid (∀ k,(Value.slice a9 n9 c9).ownBlock=some k→k≠b∧(Value.slice (some ⟨gB,0,none⟩) (A.length+1) cb1).ownBlock≠some k∧(Value.slice ag V cg).ownBlock≠some k∧(Value.slice ad V cd).ownBlock≠some k):=Lib.hid (fun k hk=>by
          rcases hs9 k hk with q|q
          ·exact HAp.out k q
          ·have t0:=lt_of_block HLa.out.box
           simp at q t0
           exact⟨by omega,fun e=>by have t:=(HLa.out.bor.lt k e).2;simp at t;omega,fun e=>by have t:=(HLa.out.gon.lt k e).2;simp at t;omega,fun e=>by have t:=(HLa.out.dar.lt k e).2;simp at t;omega⟩)
         clear ho9 hg9 hs9 hn9 HOa HLa HL7 HO7 HLo HOu HAp hcb y7
         go_upto_region 14 with fail
         have hpl:=(HRn.out.mem h hr (HRn.out.getD_mem h hr (i:=k-1) (by omega))).1
         have hql:=(HRn.out.mem h hr (HRn.out.getD_mem h hr (i:=k) (by omega))).1
         have hadj:=HRn.out.adj h hr HFr.out.1 hfi2
         obtain⟨hst,hJ0,hJ1,hJ2⟩:=HRn.out.step h hr HFr.out
         have hot:=HOt.out.step h hr HRn.out h2 HFr.out (fun l hl=>HFm.out l hl)
         have hns:=HRn.out.names_step h hr HFr.out
         have hbl:=HRn.out.border_len h hr
         have hba:=fun i hi=>HRn.out.border_at h hr (i:=i) hi
         have hbk:=hba k hfi2
         have hbp:=hba (k-1) (by omega)
         rw[HQ.out] at hql hadj hst hJ0 hJ1 hJ2 hot hns hbk
         obtain⟨p,hp⟩:∃ p,A.getD (k-1) 0=p:=⟨_,rfl⟩
         rw[hp] at hpl hadj hJ0 hJ1 hJ2 hns hbp
         obtain⟨J,hJ⟩:∃ J,arcN s p q=J:=⟨_,rfl⟩
         rw[hJ] at hJ0 hJ1 hJ2 hns
         have hJn:=h.arc_le hpl hJ1 hJ2
         have HIn:=Lib.hid (fun R' w' (he:Ev R7 w9 R' w')=>inner_any R' w' (HL9.out.ev.trans he).inv _ s (r:Int) (HMp.out _ _ (HE1.out.trans (HL9.out.ev.trans he))) h b _ V Gn D (HL9.out.left.ev he) HDa.out k HFr.out.1 (by rw[hbl];omega) (by rw[hbl];omega) p q hpl hql hbp (by rw[hbk,hadj.1]) hadj.2.2.1.symm J hJ0 (by omega) hJ1 hJ2)
         have HSt:=Lib.hid hst
         have HOt2:=Lib.hid hot
         have HNs:=Lib.hid hns
         have hIl:(innL s p J).length=J-1:=by unfold innL;simp
         have HIl:=Lib.hid hIl
         obtain⟨I,hI'⟩:∃ I,innL s p J=I:=⟨_,rfl⟩
         rw[hI'] at HIn HNs HIl
         obtain⟨BB,hBB⟩:∃ BB,vtL s (A ++ [r ^^^ 1])=BB:=⟨_,rfl⟩
         rw[hBB] at HL9 HNs hbl
         have hV2:=HVn.out
         have hwk:IntKind.i64.wrap ((k:Int)+1)=(k:Int)+1:=IntWalk.i64_in _ (by omega)
         have HRp:=Lib.hid (fun R' w' (he:Ev R7 w9 R' w') B av m cv (hv:OwnI R' B 3 w' (.slice av m cv) I) (hm:I.length=m) (hd:∀ x,(Value.slice av m cv).ownBlock=some x→(Value.slice (some ⟨gB,0,none⟩) (A.length+1) cb1).ownBlock≠some x)=>
          by
           have t:=replace_any R1 w1 R' w' (HL9.out.step he).ev _ (A.length+1) cb1 BB (HL9.out.step he).bor B av m cv I hv hd hbl hm k HFr.out.1 (by omega) (by omega) (by rw[←hm,HIl.out];omega)
           rw[show ((k+1:Nat):Int)=(k:Int)+1 from rfl] at t
           exact t)
         clear hpl hql hadj hst hJ0 hJ1 hJ2 hot hns hba hbk hbp hIl hI' hBB hp hJ hbl
         go_cut [] (fun wx=>∃ (a11:Option Addr) (n11 c11:Nat) (R11:Reg),LeftOwn R1 w1 R11 wx b (.pointer (some ⟨bp,0,none⟩)) a11 n11 c11 ag cg ad cd V (BB.take k ++ I ++ BB.drop (k+1)) Gn D∧OwnI R11 w1.heap.size 3 wx (.slice a9 n9 c9) (out ++ [vq])∧∀ x,(Value.slice a9 n9 c9).ownBlock=some x→x≠b∧(Value.slice a11 n11 c11).ownBlock≠some x∧(Value.slice ag V cg).ownBlock≠some x∧(Value.slice ad V cd).ownBlock≠some x)
         case first=>
          as_aux_lemma=>
          have HEd:=Lib.hid ((Ev.refl HL9.out.ev.inv).drew)
          refine wp_region_held_drew (S:=fun _:World=>True) (by kernel_rfl) trivial (fun hHeld=>?_)
          refine tk 0 (v:=?fkg0_20) ?gkg0_20 ?_
          case gkg0_20=>(intro w' _;go_simp;try with_reducible rfl)
          try simp only[Act.put,rd]
          refine tk 1 (v:=?fkg1_20) ?gkg1_20 ?_
          case gkg1_20=>(intro w' _;go_simp;try with_reducible rfl)
          try simp only[Act.put,rd]
          refine tk 2 (v:=?fkg2_20) ?gkg2_20 ?_
          case gkg2_20=>(intro w' _;go_simp;try with_reducible rfl)
          try simp only[Act.put,rd]
          refine tk 3 (v:=?fkg3_20) ?gkg3_20 ?_
          case gkg3_20=>(intro w' _;go_simp;try with_reducible rfl)
          try simp only[Act.put,rd]
          refine tk 5 (v:=?fkg5_20) ?gkg5_20 ?_
          case gkg5_20=>(intro w' _;go_simp;try with_reducible rfl)
          try simp only[Act.put,rd]
          refine tk 6 (v:=?fkg6_20) ?gkg6_20 ?_
          case gkg6_20=>(intro w' _;go_simp;try with_reducible rfl)
          try simp only[Act.put,rd]
          refine tk 7 (v:=?fkg7_20) ?gkg7_20 ?_
          case gkg7_20=>(intro w' _;go_simp;try with_reducible rfl)
          try simp only[Act.put,rd]
          refine tk 8 (v:=?fkg8_20) ?gkg8_20 ?_
          case gkg8_20=>(intro w' _;go_simp;try with_reducible rfl)
          try simp only[Act.put,rd]
          refine tk 9 (v:=?fkg9_20) ?gkg9_20 ?_
          case gkg9_20=>(intro w' _;go_simp;try with_reducible rfl)
          try simp only[Act.put,rd]
          refine wpAnyH_ready (rs:=[4,10]) (by kernel_rfl) (by simp) (AllReadyH.cons rfl (fun K hK=>?_) (AllReadyH.cons rfl (fun K hK=>?_) AllReadyH.nil))
          ·have yb:=cells_at (HL9.out.step HEd.out).box 1
           go_simp
           refine hK.out _ _ trivial (fun _=>?_)
           try simp only[Act.put,rd]
           clear yb
           refine nx 10 fun K hK=>?_
           go_simp
           refine (HIn.out _ _ HEd.out).mono ?_
           rintro zz w10 ⟨vi,R10,rfl,he10,hoi⟩
           have HE10:=Lib.hid (HEd.out.trans he10)
           obtain⟨ai,ci,ei,_⟩:=hoi.ints.open
           obtain⟨m,hm⟩:∃ m,I.length=m:=⟨_,rfl⟩
           rw[hm] at ei
           subst ei
           have hdi:∀ x,(Value.slice ai m ci).ownBlock=some x→(Value.slice (some ⟨gB,0,none⟩) (A.length+1) cb1).ownBlock≠some x:=fun x hx1 hx2=>by
            have t1:=(hoi.lt x hx1).1
            have t2:=((HL9.out.step HEd.out).bor.lt x hx2).2
            omega
           have HR11:=Lib.hid (HRp.out _ _ HE10.out _ _ m _ hoi hm hdi)
           have HL10:=Lib.hid (HL9.out.step HE10.out)
           have HO10:=Lib.hid (HO9.out.ev HE10.out)
           clear he10 hoi hm hdi
           go_simp
           refine hK.out _ _ trivial (fun _=>?_)
           try simp only[Act.put,rd]
           refine nx 11 fun K hK=>?_
           go_simp
           refine HR11.out.mono ?_
           rintro zz w11 ⟨v11,rfl,hev,hg11,ho11,hs11⟩
           obtain⟨a11,c11,e11,_⟩:=ho11.ints.open
           obtain⟨n11,hn11⟩:∃ m,(BB.take k ++ I ++ BB.drop (k+1)).length=m:=⟨_,rfl⟩
           rw[hn11] at e11
           subst e11
           have HL11:=Lib.hid (HL10.out.replaced hev hg11 ho11 hn11 hs11)
           have hb11:w11.heap[b]?=some (.cells #[.pointer (some ⟨bp,0,none⟩),.slice (some ⟨gB,0,none⟩) (A.length+1) cb1,.slice ag V cg,.slice ad V cd] 104 (0,0)):=(hg11.block b (lt_of_block HL10.out.box) (fun e=>HL10.out.d1 e.symm)).trans HL10.out.box
           have HO11:=Lib.hid ((HO10.out.kept hg11 (dis_ne fun x h1 h2=>(HAp9.out x h2).2.1 h1)).setCell (a:=⟨b,1,none⟩) (fun e=>(HAp9.out b e).1 rfl) (.slice a11 n11 c11))
           have HAp11:Hid (∀ x,(Value.slice a9 n9 c9).ownBlock=some x→x≠b∧(Value.slice a11 n11 c11).ownBlock≠some x∧(Value.slice ag V cg).ownBlock≠some x∧(Value.slice ad V cd).ownBlock≠some x):=Lib.hid (fun x hx=>by
            obtain⟨t1,t2,t3,t4⟩:=HAp9.out x hx
            refine⟨t1,fun e=>?_,t3,t4⟩
            rcases hs11 x e with q|q
            ·exact t2 q
            ·have:=(HO10.out.lt x hx).2
             omega)
           have y11:=cells_at hb11 1
           have f11:w11.frozen? ⟨b,1,none⟩=false:=by simp[World.frozen?,hb11]
           clear hev hg11 ho11 hs11 hn11 hb11
           go_simp
           refine hK.out _ _ trivial (fun _=>?_)
           try simp only[Act.put,rd]
           refine tk 12 (v:=?fkg12_22a) ?gkg12_22a ?_
           case gkg12_22a=>(intro w' _;go_simp;try with_reducible rfl)
           try simp only[Act.put,rd]
           refine tk 13 (v:=?fkg13_22a) ?gkg13_22a ?_
           case gkg13_22a=>(intro w' _;go_simp;try with_reducible rfl)
           try simp only[Act.put,rd]
           refine nx 14 fun K hK=>?_
           go_simp
           refine hK.out _ _ trivial (fun _=>?_)
           try simp only[Act.put,rd]
           refine wpAnyH_done (by kernel_rfl) ?_ _
           clear y11 f11
           go_wp2_with fail
           go_meet
           exact⟨_,_,_,_,HL11.out,HO11.out,HAp11.out⟩
          ·go_simp
           refine (HIn.out _ _ HEd.out).mono ?_
           rintro zz w10 ⟨vi,R10,rfl,he10,hoi⟩
           have HE10:=Lib.hid (HEd.out.trans he10)
           obtain⟨ai,ci,ei,_⟩:=hoi.ints.open
           obtain⟨m,hm⟩:∃ m,I.length=m:=⟨_,rfl⟩
           rw[hm] at ei
           subst ei
           have hdi:∀ x,(Value.slice ai m ci).ownBlock=some x→(Value.slice (some ⟨gB,0,none⟩) (A.length+1) cb1).ownBlock≠some x:=fun x hx1 hx2=>by
            have t1:=(hoi.lt x hx1).1
            have t2:=((HL9.out.step HEd.out).bor.lt x hx2).2
            omega
           have HR11:=Lib.hid (HRp.out _ _ HE10.out _ _ m _ hoi hm hdi)
           have HL10:=Lib.hid (HL9.out.step HE10.out)
           have HO10:=Lib.hid (HO9.out.ev HE10.out)
           clear he10 hoi hm hdi
           go_simp
           refine hK.out _ _ trivial (fun _=>?_)
           try simp only[Act.put,rd]
           refine nx 4 fun K hK=>?_
           have yb:=cells_at HL10.out.box 1
           go_simp
           refine hK.out _ _ trivial (fun _=>?_)
           try simp only[Act.put,rd]
           clear yb
           refine nx 11 fun K hK=>?_
           go_simp
           refine HR11.out.mono ?_
           rintro zz w11 ⟨v11,rfl,hev,hg11,ho11,hs11⟩
           obtain⟨a11,c11,e11,_⟩:=ho11.ints.open
           obtain⟨n11,hn11⟩:∃ m,(BB.take k ++ I ++ BB.drop (k+1)).length=m:=⟨_,rfl⟩
           rw[hn11] at e11
           subst e11
           have HL11:=Lib.hid (HL10.out.replaced hev hg11 ho11 hn11 hs11)
           have hb11:w11.heap[b]?=some (.cells #[.pointer (some ⟨bp,0,none⟩),.slice (some ⟨gB,0,none⟩) (A.length+1) cb1,.slice ag V cg,.slice ad V cd] 104 (0,0)):=(hg11.block b (lt_of_block HL10.out.box) (fun e=>HL10.out.d1 e.symm)).trans HL10.out.box
           have HO11:=Lib.hid ((HO10.out.kept hg11 (dis_ne fun x h1 h2=>(HAp9.out x h2).2.1 h1)).setCell (a:=⟨b,1,none⟩) (fun e=>(HAp9.out b e).1 rfl) (.slice a11 n11 c11))
           have HAp11:Hid (∀ x,(Value.slice a9 n9 c9).ownBlock=some x→x≠b∧(Value.slice a11 n11 c11).ownBlock≠some x∧(Value.slice ag V cg).ownBlock≠some x∧(Value.slice ad V cd).ownBlock≠some x):=Lib.hid (fun x hx=>by
            obtain⟨t1,t2,t3,t4⟩:=HAp9.out x hx
            refine⟨t1,fun e=>?_,t3,t4⟩
            rcases hs11 x e with q|q
            ·exact t2 q
            ·have:=(HO10.out.lt x hx).2
             omega)
           have y11:=cells_at hb11 1
           have f11:w11.frozen? ⟨b,1,none⟩=false:=by simp[World.frozen?,hb11]
           clear hev hg11 ho11 hs11 hn11 hb11
           go_simp
           refine hK.out _ _ trivial (fun _=>?_)
           try simp only[Act.put,rd]
           refine tk 12 (v:=?fkg12_22b) ?gkg12_22b ?_
           case gkg12_22b=>(intro w' _;go_simp;try with_reducible rfl)
           try simp only[Act.put,rd]
           refine tk 13 (v:=?fkg13_22b) ?gkg13_22b ?_
           case gkg13_22b=>(intro w' _;go_simp;try with_reducible rfl)
           try simp only[Act.put,rd]
           refine nx 14 fun K hK=>?_
           go_simp
           refine hK.out _ _ trivial (fun _=>?_)
           try simp only[Act.put,rd]
           refine wpAnyH_done (by kernel_rfl) ?_ _
           clear y11 f11
           go_wp2_with fail
           go_meet
           exact⟨_,_,_,_,HL11.out,HO11.out,HAp11.out⟩
         case rest=>
          obtain⟨a11,n11,c11,R11,hl11,ho11,ha11⟩:=hcut
          have HL11:=Lib.hid hl11
          have HO11:=Lib.hid ho11
          have HA11:=Lib.hid ha11
          have hqv:nth (namesL s) q=((vtx s q:Nat):Int):=vtx_eq h.perm (by have t:=(HRn.out.mem h hr (HRn.out.getD_mem h hr (i:=k) hfi2)).1;rwa [HQ.out] at t)
          have hql2:vtx s q<V:=by
           rw[←hV]
           exact vtx_lt h.perm (by have t:=(HRn.out.mem h hr (HRn.out.getD_mem h hr (i:=k) hfi2)).1;rwa [HQ.out] at t)
          have hvqn:vq=((vtx s q:Nat):Int):=by rw[←HVq.out,hqv]
          have HGn2:=Lib.hid (show ∀ d,d<s.length→((fun i=>if i=vtx s q then true else Gn i) (vtx s d)=true↔nth (namesL s) d∈out ++ [vq]) from fun d hd=>by
           have ed:=vtx_eq h.perm hd
           simp only[List.mem_append,List.mem_singleton]
           by_cases e:vtx s d=vtx s q
           ·simp only[if_pos e,true_iff]
            exact .inr (by rw[ed,e,hvqn])
           ·simp only[if_neg e]
            rw[HGn.out d hd]
            exact⟨.inl,fun t=>t.resolve_right (fun t=>e (by rw[ed,hvqn] at t;exact Int.ofNat.inj t))⟩)
          have HSt2:=Lib.hid (show ShRun s r (cutA s A k) (out ++ [vq]) by have t:=HSt.out;rwa [HVq.out] at t)
          have HOt3:=Lib.hid (show OrdTo s r (cutA s A k) (out ++ [vq]) by have t:=HOt2.out;rwa [HVq.out] at t)
          have hcl:(cutA s A k).length+1=n11:=by
           have t:=HSt2.out.border_len h hr
           rw[HNs.out] at t
           rw[←HL11.out.bl,t]
          have hn9:=HN9.out
          have hno:=HNo.out
          simp only[List.length_append,List.length_singleton] at hn9
          have hol2:=HSt2.out.len h hr
          rw[hV] at hol2
          simp only[List.length_append,List.length_singleton] at hol2
          obtain⟨vn,hvn⟩:∃ vn,vtx s q=vn:=⟨_,rfl⟩
          rw[hvn] at hvqn hql2 HGn2
          obtain⟨gG,rfl,_,_,hcg,hfg⟩:=HL11.out.gon.headAt (i:=vn) (by rw[boolV_length];exact hql2)
          rw[boolV_at _ hql2] at hcg
          obtain⟨gO,rfl,_,_,hco,_⟩:=HO11.out.headAt HN9.out (i:=no) (by omega)
          have hnv:nth (out ++ [vq]) no=vq:=by
           unfold nth
           rw[List.getD_eq_getElem?_getD,←hno,List.getElem?_append_right (Nat.le_refl _)]
           simp
          rw[hnv,hvqn] at hco
          have HM:=Lib.hid (HL11.out.mark rfl vn)
          have HOm:=Lib.hid (HO11.out.setCell (a:=⟨gG,vn,none⟩) (fun e=>(HA11.out gG e).2.2.1 rfl) (.bool true))
          have hgo:gG≠gO:=fun e=>(HA11.out gO rfl).2.2.1 (by rw[←e];rfl)
          have yb2:=cells_at HL11.out.box 2
          have hwn:IntKind.i64.wrap ((n9:Int)-1)=(no:Int):=by rw[show (n9:Int)-1=(no:Int) by omega];exact IntWalk.i64_in _ (by omega)
          have hno9:no<n9:=by omega
          clear hl11 ho11 ha11 hnv hqv
          as_aux_lemma=>
           go_wp2_with fail
           refine wp_region_held_drew (S:=(fun w':World=>w'.cell? ⟨b,2,none⟩=some (.slice (some ⟨gG,0,none⟩) V cg)∧w'.cell? ⟨gO,no,none⟩=some (.int .i64 (vn:Int)))) (by kernel_rfl) ⟨yb2,hco⟩ (fun hHeld=>?_)
           refine tk 0 (v:=?fkh_0) ?gkh_0 ?_
           case gkh_0=>(intro w' ⟨s0,s1⟩;go_simp;try with_reducible rfl)
           try simp only[Act.put,rd]
           refine tk 1 (v:=?fkh_1) ?gkh_1 ?_
           case gkh_1=>(intro w' ⟨s0,s1⟩;go_simp;try with_reducible rfl)
           try simp only[Act.put,rd]
           refine tk 2 (v:=?fkh_2) ?gkh_2 ?_
           case gkh_2=>(intro w' ⟨s0,s1⟩;go_simp;try with_reducible rfl)
           try simp only[Act.put,rd]
           refine tk 3 (v:=?fkh_3) ?gkh_3 ?_
           case gkh_3=>(intro w' ⟨s0,s1⟩;go_simp;try with_reducible rfl)
           try simp only[Act.put,rd]
           refine tk 4 (v:=?fkh_4) ?gkh_4 ?_
           case gkh_4=>(intro w' ⟨s0,s1⟩;go_simp;try with_reducible rfl)
           try simp only[Act.put,rd]
           refine tk 5 (v:=?fkh_5) ?gkh_5 ?_
           case gkh_5=>(intro w' ⟨s0,s1⟩;go_simp;try with_reducible rfl)
           try simp only[Act.put,rd]
           refine tk 6 (v:=?fkh_6) ?gkh_6 ?_
           case gkh_6=>(intro w' ⟨s0,s1⟩;go_simp;try with_reducible rfl)
           try simp only[Act.put,rd]
           refine tk 7 (v:=?fkh_7) ?gkh_7 ?_
           case gkh_7=>(intro w' ⟨s0,s1⟩;go_simp;try with_reducible rfl)
           try simp only[Act.put,rd]
           refine tk 8 (v:=?fkh_8) ?gkh_8 ?_
           case gkh_8=>(intro w' ⟨s0,s1⟩;go_simp;try with_reducible rfl)
           try simp only[Act.put,rd]
           refine tk 9 (v:=?fkh_9) ?gkh_9 ?_
           case gkh_9=>(intro w' ⟨s0,s1⟩;go_simp;try with_reducible rfl)
           try simp only[Act.put,rd]
           refine tk 10 (v:=?fkh_10) ?gkh_10 ?_
           case gkh_10=>(intro w' ⟨s0,s1⟩;go_simp;try with_reducible rfl)
           try simp only[Act.put,rd]
           refine nx 11 fun K hK=>?_
           go_simp
           refine hK.out _ _ ⟨cells_at HM.out.box 2,by rw[World.cell?_drew,World.cell?_setCell_other _ _ _ _ (fun e=>hgo (by cases e;rfl))];exact hco⟩ (fun hHeld2=>?_)
           try simp only[Act.put,rd]
           refine wpAnyH_done (by kernel_rfl) ?_ _
           clear hHeld2 hcg hfg hco yb2
           go_wp2_with fail
           go_roundg (V-(out ++ [vq]).length)
           case measure=>simp;omega
           case rel=>exact⟨cutA s A k,out ++ [vq],_,_,_,_,_,_,_,_,Nat.le_refl _,rfl,HSt2.out,HOt3.out,hcl.symm,by rw[HNs.out];exact HM.out.step ((Ev.refl HM.out.ev.inv).drew),HGn2.out,HN9.out,HOm.out.drew,HA11.out⟩
       ·as_aux_lemma=>
         have hgt:¬ ((A.length+1:Nat):Int) > 2:=by omega
         have hod:=HOt.out.done h hr (by omega)
         rw[hc0,hc1] at hod
         have hod2:(out ++ [c1,c0]).reverse=orderL s r:=by rw[hod];simp
         have hVn2:=HVn.out
         have HEd:=Lib.hid ((HLo.out.ev).drew)
         have HOa:=Lib.hid (HOu.out.drew.alloc (.cells #[.int .i64 c1,.int .i64 c0] 3))
         have HEa:=Lib.hid (HEd.out.alloc (.cells #[.int .i64 c1,.int .i64 c0] 3))
         clear hod
         go_wp2_with fail
         refine wp_region_held_drew (S:=(fun w':World=>w'.cell? ⟨gc,oc,none⟩=some (.int .i64 c0)∧w'.cell? ⟨gc,oc+1,none⟩=some (.int .i64 c1))) (by kernel_rfl) ⟨(HXc.out _ _ HEd.out).1,(HXc.out _ _ HEd.out).2.1⟩ (fun hHeld=>?_)
         refine tk 0 (v:=?fki_0) ?gki_0 ?_
         case gki_0=>(intro w' ⟨s0,s1⟩;go_simp;try with_reducible rfl)
         try simp only[Act.put,rd]
         refine tk 1 (v:=?fki_1) ?gki_1 ?_
         case gki_1=>(intro w' ⟨s0,s1⟩;go_simp;try with_reducible rfl)
         try simp only[Act.put,rd]
         refine tk 2 (v:=?fki_2) ?gki_2 ?_
         case gki_2=>(intro w' ⟨s0,s1⟩;go_simp;try with_reducible rfl)
         try simp only[Act.put,rd]
         refine tk 3 (v:=?fki_3) ?gki_3 ?_
         case gki_3=>(intro w' ⟨s0,s1⟩;go_simp;try with_reducible rfl)
         try simp only[Act.put,rd]
         refine tk 4 (v:=?fki_4) ?gki_4 ?_
         case gki_4=>(intro w' ⟨s0,s1⟩;go_simp;try with_reducible rfl)
         try simp only[Act.put,rd]
         refine tk 5 (v:=?fki_5) ?gki_5 ?_
         case gki_5=>(intro w' ⟨s0,s1⟩;go_simp;try with_reducible rfl)
         try simp only[Act.put,rd]
         refine tk 6 (v:=?fki_6) ?gki_6 ?_
         case gki_6=>(intro w' ⟨s0,s1⟩;go_simp;try with_reducible rfl)
         try simp only[Act.put,rd]
         refine nx 7 fun K hK=>?_
         go_simp
         refine hK.out _ _ ⟨(HXc.out _ _ HEa.out).1,(HXc.out _ _ HEa.out).2.1⟩ (fun hHeld2=>?_)
         try simp only[Act.put,rd]
         refine nx 8 fun K hK=>?_
         refine step_app_two rfl _ _ rfl HOa.out rfl wr.heap.size 2 c1 c0 rfl ?P1 ?P2 ?P3 ?P4 ?P5 ?_
         case P1=>exact cells_at (heap_alloc_new wr.drew (.cells #[.int .i64 c1,.int .i64 c0] 3)) 0
         case P2=>exact cells_at (heap_alloc_new wr.drew (.cells #[.int .i64 c1,.int .i64 c0] 3)) 1
         case P3=>omega
         case P4=>exact HEa.out.size
         case P5=>exact fun q hq=>HEa.out.inv.none_of_ge hq
         intro v' w9 ho9 hg9 hs9
         obtain⟨a9,c9,e9,_⟩:=ho9.ints.open
         obtain⟨n9,hn9⟩:∃ n9,(out ++ [c1,c0]).length=n9:=⟨_,rfl⟩
         rw[hn9] at e9
         subst e9
         have HE9:=Lib.hid (HEa.out.app HOa.out (Nat.le_refl _) hg9)
         have hnb:n9≤8388607:=by rw[←hn9];simp;omega
         have HRv:=Lib.hid (reverse_any R1 w1 R6 w9 HE9.out _ n9 c9 (out ++ [c1,c0]) ho9 hn9 hnb)
         clear ho9 hg9 hs9 hn9 hnb
         refine hK.out _ _ ⟨(HXc.out _ _ HE9.out).1,(HXc.out _ _ HE9.out).2.1⟩ (fun hHeld3=>?_)
         try simp only[Act.put,rd]
         refine tk 9 (v:=?fki_9) ?gki_9 ?_
         case gki_9=>(intro w' ⟨s0,s1⟩;go_simp;try with_reducible rfl)
         try simp only[Act.put,rd]
         refine wpAnyH_done (by kernel_rfl) ?_ _
         clear hHeld hHeld2 hHeld3
         go_wp2_with fail
         refine HRv.out.mono ?_
         rintro e w10 ⟨rfl,hev,_,ho10⟩
         rw[hod2] at ho10
         go_wp2_with fail
         go_ret2
         exact⟨_,R6,rfl,HE1.out.trans hev,ho10.mono HE1.out.size⟩
end Go.Proofs.YtgphnkkdmlohlaaGreatDoor
