/- canon.Canon. -/
import Derived.Test.YtklkgicjfnbndaaGreatZScriptDoes35
import Derived.Test.YtklkgicjfnbndaaGreatZScriptDoes36
import Derived.StillTailTactics
import Derived.OwnWalk
import Derived.Test.YtklkgicjfnbndaaGreatZScriptDoes14
import Derived.Test.YtklkgicjfnbndaaGreatZScriptDoes24
import Derived.Test.YtklkgicjfnbndaaGreatZScriptDoes34
namespace Go.Proofs.YtklkgicjfnbndaaGreat
section
open Go.RowKit
set_option linter.unusedVariables false
theorem FOk.len_le {n:Nat} {F:List Nat} (h:FOk n F) (he:n % 2=0):2*F.length≤n:=by
 have hnd:(F.map (fun x=>x / 2)).Nodup:=by
  rw[List.nodup_iff_pairwise_ne,List.pairwise_iff_getElem]
  intro i j hi hj hij e
  simp only[List.getElem_map] at e
  rw[List.length_map] at hi hj
  have:=h.one i j hi hj (by rw[at'_eq hi,at'_eq hj];exact e)
  omega
 have h1:(F.map (fun x=>x / 2)).length≤(List.range (n / 2)).length:=hnd.length_le_of_subset fun x hx=>by
  obtain⟨y,hy,rfl⟩:=List.mem_map.1 hx
  obtain⟨i,hi,rfl⟩:=List.getElem_of_mem hy
  have:=h.lt i hi
  rw[at'_eq hi] at this
  exact List.mem_range.2 (by omega)
 simp at h1
 omega
def RetCan (R:Reg) (w:World) (s:List Nat) (root lone:Nat) (e:Ending) (w':World):Prop:=
 ∃ q pm R',e=.returned (.tuple #[q,pm,.int .i64 0])∧Ev R w R' w'∧MapAt R' q (relL s (canL s root)) 0 lone∧PermAt R' pm (canL s root)
theorem nmI_cases (F:List Nat) (d:Nat):(hasE F d=true∧∃ x:Nat,nmI F d=(x:Int))∨(hasE F d=false∧nmI F d=-1):=by
 unfold nmI
 by_cases h:hasE F d=true
 ·exact Or.inl ⟨h,_,by rw[if_pos h]⟩
 ·exact Or.inr ⟨by simpa using h,by rw[if_neg h]⟩
theorem fst_take {F ds:List Nat} {j:Nat} (hj:j<ds.length):fstL F (ds.take (j+1))=fstAdd (fstL F (ds.take j)) (at' ds j):=by
 unfold fstL
 rw[foldl_take_succ _ _ _ _ hj,at'_eq hj]
theorem fst_flat {s:List Nat} {rs:List Nat} {k:Nat} (hk:k<rs.length):fstL [] ((rs.take (k+1)).flatMap (walkD s))=fstL (fstL [] ((rs.take k).flatMap (walkD s))) (walkD s (at' rs k)):=by
 rw[List.take_succ_eq_append_getElem hk,List.flatMap_append,at'_eq hk]
 unfold fstL
 rw[List.foldl_append]
 simp
theorem walkD_length (s:List Nat) (r:Nat):(walkD s r).length=partC' s r:=by simp[walkD]
theorem walkD_at {s:List Nat} {r j:Nat} (hj:j<partC' s r):at' (walkD s r) j=wd s (sizesL s).length r j:=by simp[walkD,at',hj]
set_option maxRecDepth 100000 in
set_option maxHeartbeats 4000000 in
theorem canon_some (R:Reg) (w:World) (hI:Inv R w) (p:Value) (s:List Nat) (root lone:Nat) (hp:MapAt R p s (root:Int) lone) (hr:root<s.length):
  Calls Tryz.prog 113 #[p] w (RetCan R w s root lone):=by
 obtain⟨hs,hok⟩:=hp.ok hI
 have he2:s.length % 2=0:=hok.1
 have hn:s.length≤131073:=hok.2.1
 have hlone:lone≤65536:=by have:=hok.2.2;omega
 have HD:=Lib.hid (fun R' w' (he:Ev R w R' w')=>darts_any R' w' he.inv p s root lone (he.map hp))
 have HRs:=Lib.hid (fun R' w' (he:Ev R w R' w')=>roots_some R' w' he.inv p s root lone (he.map hp) hr)
 have HWk:=Lib.hid (fun R' w' (he:Ev R w R' w') r (hr:r<s.length)=>walk_of R' w' he.inv p s root lone (he.map hp) r hr)
 have HMt:=Lib.hid (fun R' w' (he:Ev R w R' w') d (hd:d<s.length)=>(by
  have:=mate_any R' w' he.inv p s root lone (he.map hp) (d:Int)
  rw[mateI_in hd] at this
  exact this:Calls Tryz.prog 49 #[p,.int .i64 (d:Int)] w' _))
 have hcp:=canL_perm hs he2 hr
 have hcm:=canL_mates hs he2 hr
 have hcl:(canL s root).length=s.length:=canP_length _ _
 have HRl:=Lib.hid (fun R' w' (he:Ev R w R' w') q (hq:PermAt R' q (canL s root))=>(by
  have h:=relabel_yes R' w' he.inv p q s (canL s root) root lone (he.map hp) hq hcp hcl hcm
  have e:atI (canL s root) (root:Int)=0:=by rw[atI_in (by rw[hcl];exact hr),canL_root hs he2 hr];rfl
  rw[e] at h
  exact h:Calls Tryz.prog 139 #[p,q] w' (NewYes R' w' (relL s (canL s root)) 0 lone)))
 have HIx:=Lib.hid (fun r (hr:r<s.length) j=>wd_V hs he2 (V:=(sizesL s).length+lone) (by omega) hr j)
 have HLt:=Lib.hid (rootsL_lt hr)
 have HWl:=Lib.hid (fun r (hr:r<s.length) x (hx:x∈walkD s r)=>(Con.per hs).cod ((mem_walkD hs he2 hr).1 hx))
 have hnl:=canF_length (canF_ok hs he2 hr) he2 (canF_all hs he2 hr)
 have HNl:=Lib.hid hnl
 have HFin:=Lib.hid (show namesF s.length (fstL [] ((rootsL s root).flatMap (walkD s)))=toI (canL s root) by
  have e:canF s root=fstL [] ((rootsL s root).flatMap (walkD s)):=by
   unfold canF canD
   rw[if_neg (by omega)]
  rw[←e]
  exact namesF_all (canF_all hs he2 hr))
 have HFe:=Lib.hid (show 2*(fstL [] ((rootsL s root).flatMap (walkD s))).length=s.length by
  have e:canF s root=fstL [] ((rootsL s root).flatMap (walkD s)):=by
   unfold canF canD
   rw[if_neg (by omega)]
  rw[←e]
  exact hnl)
 have HRd:=Lib.hid (show (rootsL s root).length≤s.length+1 by
  unfold rootsL restTo
  rw[List.length_cons]
  have:=List.length_filter_le (firstB (partsL s) root) (List.range s.length)
  rw[List.length_range] at this
  omega)
 obtain⟨T,hT⟩:∃ T,canL s root=T:=⟨_,rfl⟩
 have hgoal:RetCan R w s root lone=fun e w'=>∃ q pm R',e=.returned (.tuple #[q,pm,.int .i64 0])∧Ev R w R' w'∧MapAt R' q (relL s T) 0 lone∧PermAt R' pm T:=by rw[←hT];rfl
 rw[hgoal]
 rw[hT] at HRl HFin hcp hcl
 have HCp:=Lib.hid hcp
 have HEv:=Lib.hid he2
 obtain⟨rs,hrs⟩:∃ rs,rootsL s root=rs:=⟨_,rfl⟩
 rw[hrs] at HRs HLt HFin HFe HRd
 obtain⟨LR,hLR⟩:∃ L,rs.length=L:=⟨_,rfl⟩
 obtain⟨n,hln⟩:∃ n,s.length=n:=⟨_,rfl⟩
 rw[hln] at HD HLt HWl HFe HFin HMt HWk HIx HRd hn hr HEv
 have HLR:=Lib.hid hLR
 have HLn:=Lib.hid hln
 have HTl:=Lib.hid (show T.length=n by rw[hcl,hln])
 have hLRb:LR≤n+1:=by rw[←hLR];exact HRd.out
 obtain⟨b,rfl,hb⟩:=hp
 have HI:=Lib.hid hI
 have hrep:=Lib.hid (fun R' w' (hI:Inv R' w') v (hv:Ints w' v [(-1:Int)])=>repeat_one R' w' hI v (-1) hv n (by omega))
 have HE1:=Lib.hid ((Ev.refl hI).alloc (.cells #[.int .i64 (-1)] 3))
 have HO1:=Lib.hid (OwnI.lit (B:=w.heap.size) hI (Nat.le_refl _) (-1))
 clear hI hb hs hok hcp hcm hcl hnl hT hgoal hrs hLR hln he2 hlone
 go_enter Tryz.func113,Tryz.ntmps113
 go_wp2_with fail
 refine (HD.out _ _ HE1.out).mono ?_
 rintro e w' ⟨rfl,rfl⟩
 go_wp2_with fail
 refine (hrep.out _ _ HE1.out.inv _ HO1.out.ints).mono ?_
 rintro e w2 ⟨v2,rfl,he2,ho2⟩
 obtain⟨a2,cT,rfl,_⟩:=ho2.ints.open
 rw[List.length_replicate] at ho2 ⊢
 obtain⟨gT,rfl,_,_,_,_⟩:=ho2.headAt (by rw[List.length_replicate]) (i:=root) hr
 rw[←namesF_nil] at ho2
 have HE2:=Lib.hid (HE1.out.trans he2)
 have HO2:=Lib.hid (ho2.mono (B':=w.heap.size) HE1.out.size)
 clear he2 ho2 HO1
 go_wp2_with fail
 refine (HRs.out _ _ HE2.out).mono ?_
 rintro e w3 ⟨v3,R3,rfl,he3,ho3⟩
 obtain⟨aR,cR,rfl,_⟩:=ho3.ints.open
 rw[toI_length,HLR.out] at ho3 ⊢
 have HE3:=Lib.hid (HE2.out.trans he3)
 have HO3:=Lib.hid (HO2.out.ev he3)
 have HR3:=Lib.hid ho3
 have hgB:gT<w2.heap.size:=(HO2.out.lt gT rfl).2
 have HgB:=Lib.hid hgB
 obtain⟨B2,hB2⟩:∃ B,w2.heap.size=B:=⟨_,rfl⟩
 rw[hB2] at HR3 HgB
 clear he3 ho3 HO2 hgB hB2
 go_wp2_with fail
 go_loopg [6,26] LR (fun gg v6 v26 wr=>∃ (k:Nat) (F:List Nat) (Rr:Reg),k≤LR∧LR-k≤gg∧v26=.int .i64 (k:Int)∧v6=.int .i64 ((2*F.length:Nat):Int)∧F=fstL [] ((rs.take k).flatMap (walkD s))∧FOk n F∧Ev R w Rr wr∧OwnI Rr w.heap.size 3 wr (.slice (some ⟨gT,0,none⟩) n cT) (namesF n F)∧OwnI Rr B2 3 wr (.slice aR LR cR) (toI rs))
 case atStart=>exact⟨0,[],R3,Nat.zero_le _,by omega,rfl,rfl,by simp[fstL],FOk.nil n,HE3.out,HO3.out,HR3.out⟩
 case round=>
  obtain⟨k,F,Rr,hk,hg,rfl,rfl,hF,hFok,hev,ho,hro⟩:=hrel
  obtain⟨t0,ht0⟩:∃ t,2*F.length=t:=⟨_,rfl⟩
  have HT0:=Lib.hid ht0
  have HFe':=Lib.hid hF
  have HFk:=Lib.hid hFok
  have HE:=Lib.hid hev
  have HO:=Lib.hid ho
  have HRo:=Lib.hid hro
  rw[ht0]
  clear hF hFok hev ho hro ht0
  by_cases hkl:k<LR
  ·have hkr:k<rs.length:=by rw[HLR.out];exact hkl
   obtain⟨gR,rfl,_,_,hc,_⟩:=HRo.out.headAt (by rw[toI_length,HLR.out]) hkl
   rw[toI_nth] at hc
   have hrm:=HLt.out (at' rs k) (by rw[at'_eq hkr];exact List.getElem_mem hkr)
   have hfl:=fst_flat (s:=s) hkr
   rw[←HFe'.out] at hfl
   obtain⟨r,hrr⟩:∃ r,at' rs k=r:=⟨_,rfl⟩
   rw[hrr] at hc hrm hfl
   have HFl:=Lib.hid hfl
   have HWr:=Lib.hid (HWk.out _ _ HE.out r hrm)
   have HPl:=Lib.hid (walkD_length s r)
   have HIr:=Lib.hid (HIx.out r hrm)
   have HWx:=Lib.hid (HWl.out r hrm)
   have hsl:=stepL_length s ((sizesL s).length+lone) r (partC' s r)
   have hsg:=fun j (hj:j<partC' s r)=>nthS_stepL (s:=s) (V:=(sizesL s).length+lone) (root:=r) hj
   have hwg:=fun j (hj:j<partC' s r)=>walkD_at (s:=s) (r:=r) hj
   have hPb:partC' s r≤n:=by have:=tally_le (Con s r) s.length;rw[HLn.out] at this;unfold partC';rwa [HLn.out]
   obtain⟨P,hP⟩:∃ P,partC' s r=P:=⟨_,rfl⟩
   rw[hP] at hPb HWr HPl hsl hsg hwg
   obtain⟨SL,hSL⟩:∃ l,stepL s ((sizesL s).length+lone) r P=l:=⟨_,rfl⟩
   rw[hSL] at HWr hsl hsg
   have HSg:=Lib.hid hsg
   have HWg:=Lib.hid hwg
   have HPe:=Lib.hid hP
   have HSl:=Lib.hid hsl
   clear hrr hfl hsl hP hSL hsg hwg
   go_wp2_with fail
   refine HWr.out.mono ?_
   rintro e w5 ⟨R5,a5,c5,rfl,he5,ho5⟩
   rw[HSl.out] at ho5 ⊢
   have HE5:=Lib.hid (HE.out.trans he5)
   have HO5:=Lib.hid (HO.out.ev he5)
   have HR5:=Lib.hid (HRo.out.ev he5)
   have hgz:gT<wr.heap.size:=(HO.out.lt gT rfl).2
   have HS5:=Lib.hid ho5
   obtain⟨B3,hB3⟩:∃ B,wr.heap.size=B:=⟨_,rfl⟩
   rw[hB3] at HS5 hgz
   have HGz:=Lib.hid hgz
   obtain⟨w6,hw6⟩:∃ w6,w6=w5:=⟨_,rfl⟩
   subst hw6
   clear he5 ho5 hc hgz hB3
   go_wp2_with fail
   go_loopg [6,38] P (fun gg v6 v38 wr=>∃ (j:Nat) (F':List Nat),j≤P∧P-j≤gg∧v38=.int .i64 (j:Int)∧v6=.int .i64 ((2*F'.length:Nat):Int)∧F'=fstL F ((walkD s r).take j)∧FOk n F'∧Ev R w R5 wr∧OwnI R5 w.heap.size 3 wr (.slice (some ⟨gT,0,none⟩) n cT) (namesF n F')∧OwnI R5 B2 3 wr (.slice (some ⟨gR,0,none⟩) LR cR) (toI rs)∧OwnV R5 B3 155 2 wr (.slice a5 P c5) P (stepsV SL))
   case atStart=>exact⟨0,F,Nat.zero_le _,by omega,rfl,by rw[HT0.out],rfl,HFk.out,HE5.out,HO5.out,HR5.out,HS5.out⟩
   case round=>
    obtain⟨j,F',hj,hg2,rfl,rfl,hF,hFok,hev,ho,hro,hst⟩:=hrel
    obtain⟨t,ht⟩:∃ t,2*F'.length=t:=⟨_,rfl⟩
    have HTt:=Lib.hid ht
    have HFe2:=Lib.hid hF
    have HFk2:=Lib.hid hFok
    have HE6:=Lib.hid hev
    have HO6:=Lib.hid ho
    have HR6:=Lib.hid hro
    have HS6:=Lib.hid hst
    rw[ht]
    clear hF hFok hev ho hro hst ht
    by_cases hjP:j<P
    ·have hjw:j<(walkD s r).length:=by rw[HPl.out];exact hjP
     have hjl:j<SL.length:=by rw[HSl.out];exact hjP
     obtain⟨gS,e1,_,_,c0,_⟩:=HS6.out.headAt (i:=j*2) (by rw[stepsV_length];omega)
     subst e1
     obtain⟨_,e1,_,_,c1,_⟩:=HS6.out.headAt (i:=j*2+1) (by rw[stepsV_length];omega)
     cases e1
     rw[(stepsV_get hjl).1,HSg.out j hjP] at c0
     rw[(stepsV_get hjl).2,HSg.out j hjP] at c1
     have hdl:=HWx.out (at' (walkD s r) j) (by rw[at'_eq hjw];exact List.getElem_mem hjw)
     have hft:=fst_take (F:=F) hjw
     rw[HWg.out j hjP,←HIr.out j] at hdl hft
     obtain⟨d,hd⟩:∃ d,wd s ((sizesL s).length+lone) r j=d:=⟨_,rfl⟩
     obtain⟨kd,hkd⟩:∃ d,wk s ((sizesL s).length+lone) r j=d:=⟨_,rfl⟩
     rw[hd] at c0 hdl hft
     rw[hkd] at c1
     rw[←HFe2.out] at hft
     have k0:wr.cell? ⟨gS,j*2,none⟩=some (.int .i64 (d:Int)):=c0
     have k1:wr.cell? ⟨gS,j*2+1,none⟩=some (.int .i64 (kd:Int)):=c1
     have HFt:=Lib.hid hft
     obtain⟨_,e2,hBT,hRT,kt,zt⟩:=HO6.out.headAt (namesF_length n F') hdl
     cases e2
     rw[namesF_at hdl] at kt
     have HEa:=Lib.hid (HE6.out.alloc (.cells #[.int .i64 (d:Int),.int .i64 (kd:Int)] 155))
     have HOa:=Lib.hid (HO6.out.alloc (.cells #[.int .i64 (d:Int),.int .i64 (kd:Int)] 155))
     have HRa:=Lib.hid (HR6.out.alloc (.cells #[.int .i64 (d:Int),.int .i64 (kd:Int)] 155))
     have HSa:=Lib.hid (HS6.out.alloc (.cells #[.int .i64 (d:Int),.int .i64 (kd:Int)] 155))
     have hgw:gT<wr.heap.size:=(HO6.out.lt gT rfl).2
     clear c0 c1 hd hkd hft
     rcases nmI_cases F' d with ⟨hh,x,hx⟩|⟨hh,hx⟩
     ·rw[hx] at kt
      have hbx:decide ((x:Int)<0)=false:=by simp
      have hbx2:¬ (x:Int)<0:=by omega
      have HFn:=Lib.hid (show fstL F ((walkD s r).take (j+1))=F' by rw[HFt.out];unfold fstAdd;rw[if_pos hh])
      clear hh hx
      go_wp2_with fail
      go_roundg (P-(j+1))
      case measure=>omega
      case rel=>exact⟨j+1,F',by omega,by omega,by go_num,by rw[HTt.out],HFn.out.symm,HFk2.out,HEa.out,HOa.out,HRa.out,HSa.out⟩
     ·rw[hx] at kt
      have HFn:=Lib.hid (show fstL F ((walkD s r).take (j+1))=F' ++ [d] by rw[HFt.out];unfold fstAdd;rw[if_neg (by rw[hh];simp)])
      have HFk3:Hid (FOk n (F' ++ [d])):=Lib.hid (by
       have:=HFk2.out.add hdl
       unfold fstAdd at this
       rwa [if_neg (by rw[hh];simp)] at this)
      have hna:=namesF_add HFk2.out HEv.out hdl hh
      have hlF:=FOk.len_le HFk3.out HEv.out
      have hlA:(F' ++ [d]).length=F'.length+1:=by simp
      rw[hlA] at hlF
      have hxl:d ^^^ 1<n:=xor_one_lt HEv.out hdl
      have HMd:=Lib.hid (HMt.out R5 (wr.alloc (.cells #[.int .i64 (d:Int),.int .i64 (kd:Int)] 155)).drew HEa.out.drew d hdl)
      rw[HTt.out] at hna
      obtain⟨dm,hdm⟩:∃ x,d ^^^ 1=x:=⟨_,rfl⟩
      rw[hdm] at hna hxl HMd
      have hdd:d≠dm:=by rw[←hdm];exact fun e=>xor_one_ne d e.symm
      obtain⟨_,e2,_,_,km,zm⟩:=HO6.out.headAt (namesF_length n F') hxl
      cases e2
      have HNa:=Lib.hid hna
      obtain⟨t1,ht1⟩:∃ x,t+1=x:=⟨_,rfl⟩
      obtain⟨t2,ht2⟩:∃ x,t+2=x:=⟨_,rfl⟩
      have htt:=HTt.out
      have hw1:IntKind.i64.wrap ((t:Int)+1)=(t1:Int):=by rw[show (t:Int)+1=(t1:Int) by omega];exact IntWalk.i64_in _ (by omega)
      have hw2:IntKind.i64.wrap ((t:Int)+2)=(t2:Int):=by rw[show (t:Int)+2=(t2:Int) by omega];exact IntWalk.i64_in _ (by omega)
      have HT2:Hid (2*(F' ++ [d]).length=t2):=Lib.hid (by rw[hlA];omega)
      rw[ht1] at HNa
      have hbx:decide ((-1:Int)<0)=true:=by decide
      clear hh hx hna hdm ht1 ht2 htt hlA hlF
      go_upto_region 13 with fail
      obtain⟨w7,hw7⟩:∃ w7,w7=wr.alloc (.cells #[.int .i64 (d:Int),.int .i64 (kd:Int)] 155):=⟨_,rfl⟩
      obtain⟨b7,hb7⟩:∃ b7,wr.heap.size=b7:=⟨_,rfl⟩
      have y0:w7.cell? ⟨b7,0,none⟩=some (.int .i64 (d:Int)):=by rw[hw7,←hb7];simp
      have y1:w7.cell? ⟨b7,1,none⟩=some (.int .i64 (kd:Int)):=by rw[hw7,←hb7];simp
      rw[hb7]
      rw[←hw7] at HEa HOa HRa HSa HMd ⊢
      clear hw7 hb7 k0 k1 kt zt km zm HE6 HO6 HR6 HS6 hgw
      obtain⟨_,e2,_,_,kt,zt⟩:=HOa.out.headAt (namesF_length n F') hdl
      cases e2
      obtain⟨_,e2,_,_,km,zm⟩:=HOa.out.headAt (namesF_length n F') hxl
      cases e2
      have HPut:Hid (OwnI R5 w.heap.size 3 ((w7.drew.setCell ⟨gT,d,none⟩ (.int .i64 (t:Int))).setCell ⟨gT,dm,none⟩ (.int .i64 (t1:Int))) (.slice (some ⟨gT,0,none⟩) n cT) (namesF n (F' ++ [d]))):=Lib.hid (by
       rw[←HNa.out]
       exact (HOa.out.drew.put (namesF_length n F') d hdl (t:Int)).put (by rw[List.length_set];exact namesF_length n F') dm hxl (t1:Int))
      have HEp:Hid (Ev R w R5 ((w7.drew.setCell ⟨gT,d,none⟩ (.int .i64 (t:Int))).setCell ⟨gT,dm,none⟩ (.int .i64 (t1:Int)))):=Lib.hid ((HEa.out.drew.setCell (p:=⟨gT,d,none⟩) hBT hRT _).setCell (p:=⟨gT,dm,none⟩) hBT hRT _)
      have hRn:(Value.slice (some ⟨gR,0,none⟩) LR cR).ownBlock≠some gT:=fun e=>by
       have h1:=(HRa.out.lt _ e).1
       have h2:=HgB.out
       omega
      have hSn:(Value.slice (some ⟨gS,0,none⟩) P c5).ownBlock≠some gT:=fun e=>by
       have h1:=(HSa.out.lt _ e).1
       have h2:=HGz.out
       omega
      have HRp:Hid (OwnI R5 B2 3 ((w7.drew.setCell ⟨gT,d,none⟩ (.int .i64 (t:Int))).setCell ⟨gT,dm,none⟩ (.int .i64 (t1:Int))) (.slice (some ⟨gR,0,none⟩) LR cR) (toI rs)):=Lib.hid ((HRa.out.drew.setCell (a:=⟨gT,d,none⟩) hRn _).setCell (a:=⟨gT,dm,none⟩) hRn _)
      have HSp:Hid (OwnV R5 B3 155 2 ((w7.drew.setCell ⟨gT,d,none⟩ (.int .i64 (t:Int))).setCell ⟨gT,dm,none⟩ (.int .i64 (t1:Int))) (.slice (some ⟨gS,0,none⟩) P c5) P (stepsV SL)):=Lib.hid ((HSa.out.drew.setCell (a:=⟨gT,d,none⟩) hSn _).setCell (a:=⟨gT,dm,none⟩) hSn _)
      clear hRn hSn
      obtain⟨z9,hz9⟩:=cell?_setCell_some (w:=w7.drew) (p:=⟨gT,d,none⟩) (x:=.int .i64 (t:Int)) (q:=⟨gT,dm,none⟩) (v:=.int .i64 (nth (namesF n F') dm)) (by go_simp)
      have hz9':(w7.setCell ⟨gT,d,none⟩ (.int .i64 (t:Int))).cell? ⟨gT,dm,none⟩=some z9:=hz9
      go_region_with (go_at_call 49;refine HMd.out.mono ?_;rintro e w' ⟨rfl,rfl⟩)
      all_goals (go_wp2_with fail)
      all_goals (clear hz9 hz9' kt km zt zm y0 y1)
      all_goals go_roundg (P-(j+1))
      all_goals first
       |(case measure=>omega)
       | skip
      all_goals (first|omega|exact⟨j+1,F' ++ [d],by omega,by omega,by go_num,by rw[HT2.out],HFn.out.symm,HFk3.out,HEp.out,HPut.out,HRp.out,HSp.out⟩)
    ·obtain rfl:j=P:=by omega
     have HFz:=Lib.hid (show fstL F (walkD s r)=F' by rw[HFe2.out,←HPl.out,List.take_length])
     go_wp2_with fail
     go_roundg (LR-(k+1))
     case measure=>omega
     case rel=>exact⟨k+1,F',R5,by omega,by omega,by go_num,by rw[HTt.out],by rw[HFl.out,HFz.out],HFk2.out,HE6.out,HO6.out,HR6.out⟩
  ·obtain rfl:k=LR:=by omega
   have hF:=HFe'.out
   rw[←HLR.out,List.take_length] at hF
   have hT:=HFin.out
   rw[←hF] at hT
   have h2:=HFe.out
   rw[←hF,HT0.out] at h2
   subst h2
   have ho:=HO.out
   rw[hT] at ho
   have HOf:=Lib.hid (of_any Rr wr HE.out.inv _ (toI T) ho.ints (by rw[toI_length,HTl.out];omega))
   have hnb:((t0:Int) == 0)=false:=by simp;omega
   clear hF hT ho
   go_wp2_with fail
   refine HOf.out.mono ?_
   rintro e wF (⟨hno,_⟩|⟨S,pm,RF,hS,hx,rfl,heF,hpm⟩)
   ·exact absurd ⟨T,HCp.out,rfl⟩ hno
   ·have hST:=toI_inj hx
    subst hST
    have HEF:=Lib.hid (HE.out.trans heF)
    have HPm:=Lib.hid hpm
    have HRq:=Lib.hid (HRl.out _ _ HEF.out _ hpm)
    clear heF hpm hx
    go_wp2_with fail
    refine HRq.out.mono ?_
    rintro e wG ⟨q,RG,rfl,heG,hq⟩
    have HEG:=Lib.hid (HEF.out.trans heG)
    have HQ:=Lib.hid hq
    have HPg:=Lib.hid (heG.perm HPm.out)
    clear heG hq
    go_wp2_with fail
    go_ret3
    exact⟨q,pm,RG,rfl,HEG.out,HQ.out,HPg.out⟩
set_option maxRecDepth 100000 in
set_option maxHeartbeats 1000000 in
theorem canon_none (R:Reg) (w:World) (hI:Inv R w) (p:Value) (s:List Nat) (root lone:Int) (hp:MapAt R p s root lone) (h0:s.length=0):
  Calls Tryz.prog 113 #[p] w fun e w'=>∃ pm R',e=.returned (.tuple #[p,pm,.int .i64 0])∧Ev R w R' w'∧PermAt R' pm []:=by
 have hd:=fun R' w' (he:Ev R w R' w')=>darts_any R' w' he.inv p s root lone (he.map hp)
 have HRs:=Lib.hid (fun R' w' (he:Ev R w R' w')=>roots_none R' w' he.inv p s root lone (he.map hp) h0)
 rw[h0] at hd
 have HD:=Lib.hid hd
 obtain⟨b,rfl,hb⟩:=hp
 have hrep:=Lib.hid (fun R' w' (hI:Inv R' w') v (hv:Ints w' v [(-1:Int)])=>repeat_one R' w' hI v (-1) hv 0 (by omega))
 have HE1:=Lib.hid ((Ev.refl hI).alloc (.cells #[.int .i64 (-1)] 3))
 have HO1:=Lib.hid (OwnI.lit (B:=w.heap.size) hI (Nat.le_refl _) (-1))
 clear hI hb hd h0
 go_enter Tryz.func113,Tryz.ntmps113
 go_wp2_with fail
 refine (HD.out _ _ HE1.out).mono ?_
 rintro e w' ⟨rfl,rfl⟩
 go_wp2_with fail
 refine (hrep.out _ _ HE1.out.inv _ HO1.out.ints).mono ?_
 rintro e w2 ⟨v2,rfl,he2,ho2⟩
 obtain⟨a2,cT,rfl,_⟩:=ho2.ints.open
 have HE2:=Lib.hid (HE1.out.trans he2)
 have HOf:=Lib.hid (of_any R w2 HE2.out.inv _ _ ho2.ints (by simp))
 simp only[List.replicate_zero,List.length_nil] at HOf ⊢
 clear he2 ho2 HO1
 go_wp2_with fail
 refine (HRs.out _ _ HE2.out).mono ?_
 rintro e w3 ⟨rfl,rfl⟩
 go_wp2_with fail
 go_loopg [6,26] 0 (fun gg v6 v26 wr=>v6=.int .i64 0∧v26=.int .i64 0∧wr=w2)
 case atStart=>exact⟨rfl,rfl,rfl⟩
 case round=>
  obtain⟨rfl,rfl,rfl⟩:=hrel
  go_wp2_with fail
  refine HOf.out.mono ?_
  rintro e wF (⟨hno,_⟩|⟨S,pm,RF,hS,hx,rfl,heF,hpm⟩)
  ·exact absurd ⟨[],range_perm 0,rfl⟩ hno
  ·have hS0:S=[]:=by
    cases S with
    | nil=>rfl
    | cons a l=>cases hx
   subst hS0
   have HEF:=Lib.hid (HE2.out.trans heF)
   have HPm:=Lib.hid hpm
   clear heF hpm hx
   go_wp2_with fail
   go_ret3
   exact⟨pm,RF,rfl,HEF.out,HPm.out⟩
end
section
open Go.RowKit
set_option linter.unusedVariables false
noncomputable def canM (s:List Nat) (root:Int):List Nat:=if s.length=0 then s else relL s (canL s root.toNat)
def canR (s:List Nat) (root:Int):Int:=if s.length=0 then root else 0
noncomputable def canPm (s:List Nat) (root:Int):List Nat:=if s.length=0 then [] else canL s root.toNat
theorem canon_any (R:Reg) (w:World) (hI:Inv R w) (p:Value) (s:List Nat) (root:Int) (lone:Nat) (hp:MapAt R p s root lone):
  Calls Tryz.prog 113 #[p] w fun e w'=>∃ q pm R',e=.returned (.tuple #[q,pm,.int .i64 0])∧Ev R w R' w'∧MapAt R' q (canM s root) (canR s root) lone∧PermAt R' pm (canPm s root):=by
 obtain⟨hs,hok⟩:=hp.ok hI
 by_cases h0:s.length=0
 ·refine (canon_none R w hI p s root lone hp h0).mono ?_
  rintro e w' ⟨pm,R',rfl,he,hpm⟩
  unfold canM canR canPm
  rw[if_pos h0,if_pos h0,if_pos h0]
  exact⟨p,pm,R',rfl,he,he.map hp,hpm⟩
 ·have hr:0≤root∧root<s.length:=by have:=hok.2.2.2.2;omega
  obtain⟨r,rfl⟩:∃ r:Nat,root=(r:Int):=⟨root.toNat,by omega⟩
  refine (canon_some R w hI p s r lone hp (by omega)).mono ?_
  rintro e w' ⟨q,pm,R',rfl,he,hq,hpm⟩
  unfold canM canR canPm
  rw[if_neg h0,if_neg h0,if_neg h0,Int.toNat_natCast]
  exact⟨q,pm,R',rfl,he,hq,hpm⟩
end
section
open Go.RowKit Go.Maps
set_option linter.unusedVariables false
theorem Ev.boxC3 {R R':Reg} {w0 w':World} {b:Nat} {x y z:Value} {T:TypeId} (hb:w0.heap[b]?=some (.cells #[x,y,z] T (0,0))) (hn:R b=none) (h:Ev R w0 R' w'):
  w'.heap[b]?=some (.cells #[x,y,z] T (0,0))∧R' b=none:=⟨(h.block b (lt_of_block hb) hn).trans hb,h.free b (lt_of_block hb) hn⟩
theorem boxC_cells {w:World} {b:Nat} {x y z:Value} {T:TypeId} (hb:w.heap[b]?=some (.cells #[x,y,z] T (0,0))):w.cell? ⟨b,0,none⟩=some x∧w.cell? ⟨b,1,none⟩=some y∧w.cell? ⟨b,2,none⟩=some z∧∀ o,w.frozen? ⟨b,o,none⟩=false:=
 ⟨cells_at hb 0,cells_at hb 1,cells_at hb 2,fun o=>by simp[World.frozen?,hb]⟩
def nmO (F:List Nat) (k:Int):Option Int:=if 0≤k∧hasE F k.toNat=true then some ((nmF F k.toNat:Nat):Int) else none
theorem nmO_nat (F:List Nat) (d:Nat):nmO F (d:Int)=if hasE F d=true then some ((nmF F d:Nat):Int) else none:=by
 unfold nmO
 rw[Int.toNat_natCast]
 by_cases h:hasE F d=true
 ·rw[if_pos ⟨by omega,h⟩,if_pos h]
 ·rw[if_neg (fun k=>h k.2),if_neg h]
theorem nmO_nil:nmO []=fun _=>none:=by
 funext k
 unfold nmO
 rw[if_neg (fun h=>by simp[hasE] at h)]
theorem nmO_add {n:Nat} {F:List Nat} (h:FOk n F) {d:Nat} (hd:d<n) (hno:hasE F d=false):updF (updF (nmO F) (d:Int) ((2*F.length:Nat):Int)) ((d ^^^ 1:Nat):Int) ((2*F.length+1:Nat):Int)=nmO (F ++ [d]):=by
 have hno':¬ hasE F d=true:=by rw[hno];simp
 have hadd:fstAdd F d=F ++ [d]:=by unfold fstAdd;rw[if_neg hno']
 have hok:FOk n (F ++ [d]):=by rw[←hadd];exact h.add hd
 have hlen:F.length<(F ++ [d]).length:=by simp
 have hhas:∀ x,hasE (F ++ [d]) x=true↔hasE F x=true∨d / 2=x / 2:=fun x=>by rw[←hadd];exact hasE_add
 funext k
 unfold updF
 try dsimp only
 by_cases e1:k=((d ^^^ 1:Nat):Int)
 ·rw[if_pos e1,e1,nmO_nat,if_pos ((hhas _).2 (Or.inr (by rw[xor_one_div])))]
  have:=nm_mate hok hlen
  rw[at_app_last] at this
  rw[this]
 ·rw[if_neg e1]
  by_cases e2:k=(d:Int)
  ·rw[if_pos e2,e2,nmO_nat,if_pos ((hhas _).2 (Or.inr rfl))]
   have:=nm_at hok hlen
   rw[at_app_last] at this
   rw[this]
  ·rw[if_neg e2]
   by_cases hk:0≤k
   ·obtain⟨x,rfl⟩:∃ x:Nat,k=(x:Int):=⟨k.toNat,by omega⟩
    have e3:¬ d / 2=x / 2:=fun e=>(half_eq e).elim (fun k=>e2 (by rw[k])) fun k=>e1 (by rw[k,xor_one_one])
    rw[nmO_nat,nmO_nat]
    by_cases hF:hasE F x=true
    ·rw[if_pos hF,if_pos ((hhas x).2 (Or.inl hF))]
     obtain⟨i,hi,k⟩:=nm_cases h hF
     have hi':i<(F ++ [d]).length:=by simp;omega
     have m1:=nm_at hok hi'
     have m2:=nm_mate hok hi'
     rw[at_app hi] at m1 m2
     rcases k with ⟨k1,k2⟩|⟨k1,k2⟩
     ·rw[k2,k1,m1]
     ·rw[k2,k1,m2]
    ·rw[if_neg hF,if_neg (fun k=>((hhas x).1 k).elim hF e3)]
   ·unfold nmO
    rw[if_neg (fun h=>hk h.1),if_neg (fun h=>hk h.1)]
theorem nmO_mate {F:List Nat} {d:Nat} (hno:hasE F d=false) (u:Int):updF (nmO F) (d:Int) u ((d ^^^ 1:Nat):Int)=none:=by
 rw[updF_other _ _ _ (by have:=xor_one_ne d;omega),nmO_nat,if_neg]
 intro h
 have:hasE F d=true:=by
  obtain⟨i,hi,e⟩:=hasE_iff.1 h
  exact hasE_iff.2 ⟨i,hi,by rw[e,xor_one_div]⟩
 rw[this] at hno
 cases hno
def fB (N:List Int) (r i j:Nat):Bool:=!decide (nth N i=nth N r) && (List.range j).all fun x=>!decide (nth N x=nth N i)
theorem fB_zero (N:List Int) (r i:Nat):fB N r i 0=!decide (nth N i=nth N r):=by simp[fB]
theorem fB_succ (N:List Int) (r i j:Nat):fB N r i (j+1)=(fB N r i j && !decide (nth N j=nth N i)):=by
 unfold fB
 rw[List.range_succ,List.all_append,Bool.and_assoc]
 simp
theorem fB_all (N:List Int) (r i:Nat):fB N r i i=firstB N r i:=rfl
def outTo (n:Nat) (F:List Nat) (i:Nat):List Int:=(List.range n).map fun x=>if x<i then ((nmF F x:Nat):Int) else 0
theorem outTo_length (n:Nat) (F:List Nat) (i:Nat):(outTo n F i).length=n:=by simp[outTo]
theorem outTo_zero (n:Nat) (F:List Nat):outTo n F 0=List.replicate n 0:=by
 refine List.ext_getElem (by simp[outTo]) fun i h1 h2=>?_
 simp[outTo]
theorem outTo_set {n:Nat} {F:List Nat} {i:Nat}:(outTo n F i).set i ((nmF F i:Nat):Int)=outTo n F (i+1):=by
 refine List.ext_getElem (by simp[outTo]) fun j h1 h2=>?_
 rw[List.getElem_set]
 simp only[outTo,List.getElem_map,List.getElem_range]
 by_cases e:i=j
 ·subst e;rw[if_pos rfl,if_pos (by omega)]
 ·rw[if_neg e]
  by_cases h:j<i
  ·rw[if_pos h,if_pos (by omega)]
  ·rw[if_neg h,if_neg (by omega)]
theorem outTo_all (n:Nat) (F:List Nat):outTo n F n=toI (canP n F):=by
 unfold outTo canP toI
 rw[List.map_map]
 refine List.map_congr_left fun j hj=>?_
 rw[if_pos (List.mem_range.1 hj)]
 rfl
set_option maxRecDepth 100000 in
set_option maxHeartbeats 4000000 in
theorem r11names_some (R:Reg) (w:World) (hI:Inv R w) (v:Value) (s:List Nat) (root:Nat) (lone:Int) (hv:FreeI R w v (toI s)) (hS:IsPerm s) (hn:s.length≤131072) (he:s.length % 2=0) (hr:root<s.length):
  Calls Tryz.prog 122 #[refV v root lone] w (RetOwn R w (toI (canL s root))):=by
 obtain⟨a0,cap0,rfl,hv0⟩:=hv.open
 rw[toI_length] at hv hv0 ⊢
 have HNm:=Lib.hid (fun w' (hee:Ev R w R w')=>r8names_any R w' hee.inv _ s root lone (hv.ev hee) hS (by omega) he)
 have HWk:=Lib.hid (fun w' (hee:Ev R w R w') r (hr:r<s.length)=>rwalk_any R w' hee.inv _ s root lone (hv.ev hee) hS (by omega) he r hr)
 have hpl:=partsL_length hS he
 have HLt:=Lib.hid (rootsL_lt hr)
 have HWl:=Lib.hid (fun r (hr:r<s.length) x (hx:x∈walkD s r)=>(Con.per hS).cod ((mem_walkD hS he hr).1 hx))
 have e0:canF s root=fstL [] ((rootsL s root).flatMap (walkD s)):=by
  unfold canF canD
  rw[if_neg (by omega)]
 have hnl:=canF_length (canF_ok hS he hr) he (canF_all hS he hr)
 have HAl:=Lib.hid (canF_all hS he hr)
 have hres:toI (canL s root)=outTo s.length (canF s root) s.length:=(outTo_all _ _).symm
 rw[hres]
 obtain⟨G,hG⟩:∃ G,canF s root=G:=⟨_,rfl⟩
 rw[hG] at hnl HAl e0 ⊢
 have HG:=Lib.hid e0
 obtain⟨n,hnn⟩:∃ n,s.length=n:=⟨_,rfl⟩
 obtain⟨N,hN⟩:∃ N,partsL s=N:=⟨_,rfl⟩
 have hrt:rootsL s root=root :: restTo N root n:=by unfold rootsL;rw[hN,hnn]
 rw[hrt] at HLt HG
 rw[hN] at HNm hpl
 rw[hnn] at HNm HWk hpl HLt HWl HAl hnl hn he hr hv hv0 ⊢
 have HNn:=Lib.hid hnn
 have HPl:=Lib.hid hpl
 have HNl:=Lib.hid hnl
 have HEv:=Lib.hid he
 have HRl:Hid (∀ i,(restTo N root i).length≤i):=Lib.hid (fun i=>by
  unfold restTo
  have:=List.length_filter_le (firstB N root) (List.range i)
  rwa [List.length_range] at this)
 unfold refV at HNm HWk
 unfold refV
 have he1:Ev R w R (w.alloc (.cells #[.slice a0 n cap0,.int .i64 root,.int .i64 lone] 27)):=(Ev.refl hI).alloc _
 have hn1:R w.heap.size=none:=hI.none_of_ge (Nat.le_refl _)
 have HB1:=Lib.hid (fun w' (h:Ev R (w.alloc (.cells #[.slice a0 n cap0,.int .i64 root,.int .i64 lone] 27)) R w')=>h.boxC3 (heap_alloc_new w _) hn1)
 have hmm:=@run_makeMap Tryz.prog
 obtain⟨wa,hwa⟩:∃ wa,wa=w.alloc (.cells #[.slice a0 n cap0,.int .i64 root,.int .i64 lone] 27):=⟨_,rfl⟩
 have HWa:=Lib.hid hwa
 have HEa:Hid (Ev R w R wa):=Lib.hid (by rw[hwa];exact he1)
 have HM0:Hid (FMap R (wa.alloc (.map #[] 0)) wa.heap.size 0 (fun _=>none) 0):=Lib.hid (FMap.made HEa.out.inv)
 have HEm:=Lib.hid ((Ev.refl HEa.out.inv).alloc (.map #[] 0))
 rw[←hwa] at HB1
 obtain⟨x0,x1,x2,_⟩:=boxC_cells (HB1.out _ HEm.out).1
 have hwz:wa.heap.size=w.heap.size+1:=by rw[hwa];simp
 clear hI hv hv0 hS hnn hN he1 hn1 e0 hG hpl hnl he hres hrt
 go_enter Tryz.func122,Tryz.ntmps122
 go_upto_region 2 with fail
 rw[←hwa]
 rw[←hwz]
 clear hwa hwz
 go_wp2_with fail
 refine (HNm.out _ (HEa.out.trans HEm.out)).mono ?_
 rintro z w2 ⟨v2,rfl,he2,ho2⟩
 obtain⟨aN,cN,rfl,_⟩:=ho2.ints.open
 rw[HPl.out] at ho2 ⊢
 obtain⟨gN,rfl,_,_,kr,_⟩:=ho2.headAt HPl.out hr
 obtain⟨b,hb⟩:∃ b,wa.heap.size=b:=⟨_,rfl⟩
 have HBw:=Lib.hid (show wa.heap.size≤b by omega)
 rw[hb] at HM0 ⊢
 have HE2:=Lib.hid (HEm.out.trans he2)
 have HM2:=Lib.hid (HM0.out.ev he2)
 have HN2:=Lib.hid ho2
 have hbz:b<w2.heap.size:=HM2.out.lt
 obtain⟨x0,x1,x2,_⟩:=boxC_cells (HB1.out _ HE2.out).1
 have HEb:=Lib.hid ((Ev.refl HE2.out.inv).alloc (.cells #[.int .i64 (root:Int)] 3))
 have hnp:¬ (n:Int)≤0:=by omega
 have hnp2:0<n:=by omega
 clear he2 ho2 hmm hb HM0
 go_wp2_with (at_builtin;refine wpList_app_int (R:=R) (B:=w2.heap.size) rfl _ _ rfl (OwnI.nil R w2.heap.size 3 (w2.alloc (.cells #[.int .i64 (root:Int)] 3))) rfl ⟨w2.heap.size,0,none⟩ 1 (root:Int) ?a0 ?a1 ?a2 ?a3 ?a4 ?_)
 case a0=>first|rfl|simp
 case a1=>first|rfl|simp
 case a2=>simp
 case a3=>simp
 case a4=>exact fun q hq=>HEb.out.inv.none_of_ge (by first|exact hq|(simp at hq ⊢;omega))
 intro v3 w3 ho3 hg3 hs3
 obtain⟨a3,c3,rfl,_⟩:=ho3.ints.open
 have HE3:=Lib.hid (HEb.out.app (OwnI.nil R w2.heap.size 3 (w2.alloc (.cells #[.int .i64 (root:Int)] 3))) (Nat.le_refl _) hg3)
 have HO3:=Lib.hid (show OwnI R w2.heap.size 3 w3 (.slice a3 1 c3) (toI (root :: restTo N root 0)) from ho3)
 rw[show ([(root:Int)]:List Int).length=1 from rfl]
 clear ho3 hg3 hs3 x0 x1 x2 kr HEb
 go_wp2_with fail
 obtain⟨w3',hw3'⟩:∃ x,x=w3:=⟨_,rfl⟩
 go_loopg [5,35] n (fun g v5 v35 wr=>∃ (i:Nat) (a:Option Addr) (l c:Nat),i≤n∧n-i≤g∧v35=.int .i64 (i:Int)∧v5=.slice a l c∧l=(restTo N root i).length+1∧Ev R w2 R wr∧OwnI R w2.heap.size 3 wr (.slice a l c) (toI (root :: restTo N root i)))
 case atStart=>exact⟨0,a3,1,c3,Nat.zero_le _,by omega,rfl,rfl,rfl,HE3.out,HO3.out⟩
 case round=>
  obtain⟨i,a,l,c,hi,hg,rfl,rfl,hl,hev,ho⟩:=hrel
  have HE:=Lib.hid hev
  have HO:=Lib.hid ho
  have HL:=Lib.hid hl
  clear hev ho hl
  by_cases hin:i<n
  ·have hlb:=HRl.out i
   have hrs:=restTo_succ N root i
   rw[←fB_all] at hrs
   obtain⟨x0,x1,x2,_⟩:=boxC_cells (HB1.out _ (HE2.out.trans HE.out)).1
   have hNn:=HN2.out.ev HE.out
   obtain⟨_,e1,_,_,ki,_⟩:=hNn.headAt HPl.out hin
   cases e1
   obtain⟨_,e1,_,_,kr,_⟩:=hNn.headAt HPl.out hr
   cases e1
   have HNr:=Lib.hid hNn
   obtain⟨y,hy⟩:∃ y,nth N i=y:=⟨_,rfl⟩
   obtain⟨y0,hy0⟩:∃ y,nth N root=y:=⟨_,rfl⟩
   rw[hy] at ki
   rw[hy0] at kr
   have hb0:(y != y0)=fB N root i 0:=by rw[fB_zero,hy,hy0];rfl
   have HY:=Lib.hid hy
   obtain⟨B0,hB0⟩:∃ B,fB N root i 0=B:=⟨_,rfl⟩
   rw[hB0] at hb0
   have HB0:=Lib.hid hB0
   have HRs:=Lib.hid hrs
   clear hNn hy hy0 hB0 hrs
   go_wp2_with fail
   obtain⟨w4,hw4⟩:∃ w4,w4=wr:=⟨_,rfl⟩
   subst hw4
   go_loopg [8,9] i (fun g v8 v9 wr=>∃ (j:Nat) (Bj:Bool),j≤i∧i-j≤g∧v9=.int .i64 (j:Int)∧v8=.bool Bj∧Bj=fB N root i j∧wr=w4)
   case atStart=>exact⟨0,B0,Nat.zero_le _,by omega,rfl,rfl,HB0.out.symm,rfl⟩
   case round=>
    obtain⟨j,Bj,hj,hg2,rfl,rfl,hBj,rfl⟩:=hrel
    have hfs:=fB_succ N root i j
    rw[←hBj] at hfs
    have HBj:=Lib.hid hBj
    clear hBj
    by_cases hji:j<i
    ·obtain⟨_,e1,_,_,kj,_⟩:=HNr.out.headAt HPl.out (i:=j) (by omega)
     cases e1
     rw[HY.out] at hfs
     obtain⟨yj,hyj⟩:∃ y,nth N j=y:=⟨_,rfl⟩
     rw[hyj] at kj hfs
     clear hyj
     cases Bj
     ·have HFs:=Lib.hid (show false=fB N root i (j+1) by rw[hfs];rfl)
      clear hfs
      go_wp2_with fail
      go_roundg (i-(j+1))
      case measure=>omega
      case rel=>exact⟨j+1,false,by omega,by omega,by go_num,rfl,HFs.out,rfl⟩
     ·obtain⟨Bn,hBn⟩:∃ B,(yj != y)=B:=⟨_,rfl⟩
      have HFs:=Lib.hid (show Bn=fB N root i (j+1) by rw[hfs,←hBn];rfl)
      clear hfs
      go_wp2_with fail
      go_roundg (i-(j+1))
      case measure=>omega
      case rel=>exact⟨j+1,Bn,by omega,by omega,by go_num,rfl,HFs.out,rfl⟩
    ·obtain rfl:j=i:=by omega
     clear hfs
     cases Bj
     ·have HRn:=Lib.hid (show restTo N root (j+1)=restTo N root j by rw[HRs.out,←HBj.out];rfl)
      clear ki kr x0 x1 x2
      go_wp2_with fail
      go_roundg (n-(j+1))
      case measure=>omega
      case rel=>exact⟨j+1,a,l,c,by omega,by omega,by go_num,rfl,by rw[HRn.out];exact HL.out,HE.out,by rw[HRn.out];exact HO.out⟩
     ·have HRn:=Lib.hid (show restTo N root (j+1)=restTo N root j ++ [j] by rw[HRs.out,←HBj.out];rfl)
      have HEa':=Lib.hid (HE.out.alloc (.cells #[.int .i64 (j:Int)] 3))
      have HOa':=Lib.hid (HO.out.alloc (.cells #[.int .i64 (j:Int)] 3))
      have hLl:Hid ((toI (root :: restTo N root j)).length=l):=Lib.hid (by rw[toI_length,List.length_cons,HL.out])
      clear ki kr x0 x1 x2
      go_wp2_with (at_builtin;refine wpList_app_int (R:=R) (B:=w2.heap.size) rfl _ _ rfl HOa'.out rfl ⟨wr.heap.size,0,none⟩ 1 (j:Int) ?a0 ?a1 ?a2 ?a3 ?a4 ?_)
      case a0=>first|rfl|simp
      case a1=>first|rfl|simp
      case a2=>have:=hLl.out;have:=HL.out;omega
      case a3=>have:=HEa'.out.size;first|exact this|(simp at this ⊢;omega)
      case a4=>exact fun q hq=>HEa'.out.inv.none_of_ge (by first|exact hq|(simp at hq ⊢;omega))
      intro v8 w8 ho8 hg8 hs8
      obtain⟨a8,c8,rfl,_⟩:=ho8.ints.open
      have hl8:(toI (root :: restTo N root j) ++ [(j:Int)]).length=l+1:=by rw[List.length_append,hLl.out];rfl
      have hx8:toI (root :: restTo N root j) ++ [(j:Int)]=toI (root :: restTo N root (j+1)):=by rw[HRn.out];simp[toI]
      rw[hl8] at ho8 ⊢
      rw[hx8] at ho8
      have HE8:=Lib.hid (HEa'.out.app HOa'.out (Nat.le_refl _) hg8)
      have HO8:=Lib.hid ho8
      clear ho8 hg8 hs8 hl8 hx8
      go_wp2_with fail
      go_roundg (n-(j+1))
      case measure=>omega
      case rel=>exact⟨j+1,a8,l+1,c8,by omega,by omega,by go_num,rfl,by rw[HRn.out,List.length_append,List.length_singleton,HL.out],HE8.out,HO8.out⟩
  ·obtain rfl:i=n:=by omega
   obtain⟨rs,hrs⟩:∃ rs,root :: restTo N root i=rs:=⟨_,rfl⟩
   have hlr:rs.length=l:=by rw[←hrs,List.length_cons,HL.out]
   have hLb:l≤i+1:=by rw[HL.out];have:=HRl.out i;omega
   rw[hrs] at HO HLt HG
   have HLr:=Lib.hid hlr
   obtain⟨n,hni⟩:∃ n,n=i:=⟨_,rfl⟩
   subst hni
   have HMz:Hid (FMap R wr b 0 (nmO []) 0):=Lib.hid (by rw[nmO_nil];exact HM2.out.ev HE.out)
   have HEz:=Lib.hid (HE2.out.trans HE.out)
   obtain⟨w5,hw5⟩:∃ w5,w5=wr:=⟨_,rfl⟩
   subst hw5
   clear hlr hrs HM2 HN2 HE HL hin
   go_wp2_with fail
   go_loopg [69] l (fun g v69 wr=>∃ (k:Nat) (F:List Nat),k≤l∧l-k≤g∧v69=.int .i64 (k:Int)∧F=fstL [] ((rs.take k).flatMap (walkD s))∧FOk n F∧Ev R wa R wr∧FMap R wr b (2*F.length) (nmO F) (2*F.length)∧OwnI R w2.heap.size 3 wr (.slice a l c) (toI rs))
   case atStart=>exact⟨0,[],Nat.zero_le _,by omega,rfl,by simp[fstL],FOk.nil n,HEz.out,HMz.out,HO.out⟩
   case round=>
    obtain⟨k,F,hk,hg,rfl,hF,hFok,hev,hm,hro⟩:=hrel
    have HFe:=Lib.hid hF
    have HFk:=Lib.hid hFok
    have HE:=Lib.hid hev
    have HM:=Lib.hid hm
    have HRo:=Lib.hid hro
    clear hF hFok hev hm hro
    by_cases hkl:k<l
    ·have hkr:k<rs.length:=by rw[HLr.out];exact hkl
     obtain⟨gR,rfl,_,_,hc,_⟩:=HRo.out.headAt (by rw[toI_length,HLr.out]) hkl
     rw[toI_nth] at hc
     have hrm:=HLt.out (at' rs k) (by rw[at'_eq hkr];exact List.getElem_mem hkr)
     have hfl:=fst_flat (s:=s) hkr
     rw[←HFe.out] at hfl
     obtain⟨r,hrr⟩:∃ r,at' rs k=r:=⟨_,rfl⟩
     rw[hrr] at hc hrm hfl
     have HFl:=Lib.hid hfl
     have HWr:=Lib.hid (HWk.out _ (HEa.out.trans HE.out) r hrm)
     have HPw:=Lib.hid (walkD_length s r)
     have HWx:=Lib.hid (HWl.out r hrm)
     have hwg:=fun j (hj:j<partC' s r)=>walkD_at (s:=s) (r:=r) hj
     have hdg:∀ j,j<partC' s r→nth (dartsW s (sizesL s).length r (partC' s r)) j=((wd s (sizesL s).length r j:Nat):Int):=fun j hj=>by simp[dartsW,nth,hj]
     have hdl:=dartsW_length s (sizesL s).length r (partC' s r)
     have hkl2:=kindsW_length s (sizesL s).length r (partC' s r)
     have hPb:partC' s r≤n:=by have:=tally_le (Con s r) s.length;rw[HNn.out] at this;unfold partC';rwa [HNn.out]
     obtain⟨P,hP⟩:∃ P,partC' s r=P:=⟨_,rfl⟩
     rw[hP] at hPb HWr HPw hwg hdg hdl hkl2
     obtain⟨DL,hDL⟩:∃ l,dartsW s (sizesL s).length r P=l:=⟨_,rfl⟩
     obtain⟨KL,hKL⟩:∃ l,kindsW s (sizesL s).length r P=l:=⟨_,rfl⟩
     rw[hDL] at HWr hdg hdl
     rw[hKL] at HWr hkl2
     have HWg:=Lib.hid hwg
     have HDg:=Lib.hid hdg
     have HDl:=Lib.hid hdl
     have HKl:=Lib.hid hkl2
     obtain⟨x0,x1,x2,_⟩:=boxC_cells (HB1.out _ HE.out).1
     clear hrr hfl hP hDL hKL hwg hdg hdl hkl2
     go_wp2_with fail
     refine HWr.out.mono ?_
     rintro z w6 ⟨aD,aK,cD,cK,rfl,he6,hd6,_⟩
     rw[HDl.out] at hd6 ⊢
     have HE6:=Lib.hid (HE.out.trans he6)
     have HM6:=Lib.hid (HM.out.ev he6)
     have HR6:=Lib.hid (HRo.out.ev he6)
     have HD6:=Lib.hid hd6
     have hbw:b<wr.heap.size:=HM.out.lt
     obtain⟨B3,hB3⟩:∃ B,wr.heap.size=B:=⟨_,rfl⟩
     rw[hB3] at HD6 hbw
     have HBw3:=Lib.hid hbw
     obtain⟨w6',hw6⟩:∃ w6',w6'=w6:=⟨_,rfl⟩
     subst hw6
     clear he6 hd6 hc hB3 hbw x0 x1 x2
     go_wp2_with fail
     go_loopg [81] P (fun g v81 wr=>∃ (j:Nat) (F':List Nat),j≤P∧P-j≤g∧v81=.int .i64 (j:Int)∧F'=fstL F ((walkD s r).take j)∧FOk n F'∧Ev R wa R wr∧FMap R wr b (2*F'.length) (nmO F') (2*F'.length)∧OwnI R w2.heap.size 3 wr (.slice (some ⟨gR,0,none⟩) l c) (toI rs)∧OwnI R B3 3 wr (.slice aD P cD) DL)
     case atStart=>exact⟨0,F,Nat.zero_le _,by omega,rfl,rfl,HFk.out,HE6.out,HM6.out,HR6.out,HD6.out⟩
     case round=>
      obtain⟨j,F',hj,hg2,rfl,hF,hFok,hev,hm,hro,hdo⟩:=hrel
      have HFe2:=Lib.hid hF
      have HFk2:=Lib.hid hFok
      have HE7:=Lib.hid hev
      have HM7:=Lib.hid hm
      have HR7:=Lib.hid hro
      have HD7:=Lib.hid hdo
      clear hF hFok hev hm hro hdo
      by_cases hjP:j<P
      ·have hjw:j<(walkD s r).length:=by rw[HPw.out];exact hjP
       obtain⟨gD,rfl,_,_,kd,_⟩:=HD7.out.headAt HDl.out hjP
       rw[HDg.out j hjP] at kd
       have hdn:=HWx.out (at' (walkD s r) j) (by rw[at'_eq hjw];exact List.getElem_mem hjw)
       have hft:=fst_take (F:=F) hjw
       rw[HWg.out j hjP] at hdn hft
       obtain⟨d,hd⟩:∃ d,wd s (sizesL s).length r j=d:=⟨_,rfl⟩
       rw[hd] at kd hdn hft
       rw[←HFe2.out] at hft
       have HFt:=Lib.hid hft
       have hlk:=HM7.out.lookOk (d:Int) (by omega)
       have hnd:=nmO_nat F' d
       have hFb:=HFk2.out.len_le HEv.out
       clear hd hft
       by_cases hh:hasE F' d=true
       ·rw[if_pos hh] at hnd
        rw[hnd] at hlk
        have hlk':(Instr.lookup 157 (.map (some b)) (.int .i64 (d:Int)) true).run Tryz.prog wr=.ok (.tuple #[.int .i64 ((nmF F' d:Nat):Int),.bool true]) wr:=hlk
        have HFn:=Lib.hid (show fstL F ((walkD s r).take (j+1))=F' by rw[HFt.out];unfold fstAdd;rw[if_pos hh])
        clear hlk hnd hh
        go_wp2_with fail
        go_roundg (P-(j+1))
        case measure=>omega
        case rel=>exact⟨j+1,F',by omega,by omega,by go_num,HFn.out.symm,HFk2.out,HE7.out,HM7.out,HR7.out,HD7.out⟩
       ·have hhf:hasE F' d=false:=by simpa using hh
        rw[if_neg hh] at hnd
        rw[hnd] at hlk
        have hlk':(Instr.lookup 157 (.map (some b)) (.int .i64 (d:Int)) true).run Tryz.prog wr=.ok (.tuple #[.int .i64 0,.bool false]) wr:=hlk
        have HFn:=Lib.hid (show fstL F ((walkD s r).take (j+1))=F' ++ [d] by rw[HFt.out];unfold fstAdd;rw[if_neg hh])
        have HFk3:Hid (FOk n (F' ++ [d])):=Lib.hid (by
         have:=HFk2.out.add hdn
         unfold fstAdd at this
         rwa [if_neg hh] at this)
        have hna:=nmO_add HFk2.out hdn hhf
        obtain⟨t,ht⟩:∃ t,2*F'.length=t:=⟨_,rfl⟩
        have hmn:=nmO_mate hhf (t:Int)
        rw[ht] at hna hFb HM7
        obtain⟨t1,ht1⟩:∃ x,t+1=x:=⟨_,rfl⟩
        rw[ht1] at hna
        have HT2:Hid (2*(F' ++ [d]).length=t+1+1):=Lib.hid (by rw[List.length_append,List.length_singleton,←ht];omega)
        have hw1:IntKind.i64.wrap ((t:Int)+1)=(t1:Int):=by rw[show (t:Int)+1=(t1:Int) by omega];exact IntWalk.i64_in _ (by omega)
        obtain⟨dm,hdm⟩:∃ x,d ^^^ 1=x:=⟨_,rfl⟩
        have hxl:dm<n:=by rw[←hdm];exact xor_one_lt HEv.out hdn
        rw[hdm] at hna hmn
        have HDm:=Lib.hid hdm
        have HNa:=Lib.hid hna
        have HMn:=Lib.hid hmn
        have HNd:=Lib.hid hnd
        have hlen:=fun ty=>HM7.out.len ty
        clear hlk hnd hh hhf hna hmn ht hdm
        go_upto_region 28 with (first|(at_mapUpdate;refine wpList_fput rfl _ _ _ rfl HM7.out (by omega) (d:Int) (t:Int) rfl rfl rfl (by omega) (by omega) ?_;intro w8 hm8 hg8)|fail)
        rw[HNd.out] at hm8
        have HM8:Hid (FMap R w8 b (t+1) (updF (nmO F') (d:Int) (t:Int)) (t+1)):=Lib.hid hm8
        have HE8:=Lib.hid (HE7.out.mput HM7.out (by exact HBw.out) hg8)
        have hRn:(Value.slice (some ⟨gR,0,none⟩) l c).ownBlock≠some b:=fun e=>by
         have h1:=(HR7.out.lt _ e).1
         omega
        have hDn:(Value.slice (some ⟨gD,0,none⟩) P cD).ownBlock≠some b:=fun e=>by
         have h1:=(HD7.out.lt _ e).1
         have h2:=HBw3.out
         omega
        have HR8:=Lib.hid (HR7.out.kept hg8 (Or.inr hRn))
        have HD8:=Lib.hid (HD7.out.kept hg8 (Or.inr hDn))
        clear hm8 hg8 hlk' hlen kd HM7 HE7 HR7 HD7
        go_wp2_with (first|(go_at_call 81;refine (rmate_any _ d (by omega)).mono ?_;rintro e w9 ⟨rfl,rfl⟩;rw[HDm.out])|(at_mapUpdate;refine wpList_fput rfl _ _ _ rfl HM8.out (by omega) (dm:Int) (t1:Int) rfl rfl rfl (by omega) (by omega) ?_;intro w9 hm9 hg9)|fail)
        rw[HMn.out,HNa.out] at hm9
        have HM9:Hid (FMap R w9 b (t+1+1) (nmO (F' ++ [d])) (t+1+1)):=Lib.hid hm9
        have HE9:=Lib.hid (HE8.out.mput HM8.out (by exact HBw.out) hg9)
        have HR9:=Lib.hid (HR8.out.kept hg9 (Or.inr hRn))
        have HD9:=Lib.hid (HD8.out.kept hg9 (Or.inr hDn))
        clear hm9 hg9 hRn hDn
        go_wp2_with fail
        go_roundg (P-(j+1))
        case measure=>omega
        case rel=>exact⟨j+1,F' ++ [d],by omega,by omega,by go_num,HFn.out.symm,HFk3.out,HE9.out,by rw[HT2.out];exact HM9.out,HR9.out,HD9.out⟩
      ·obtain rfl:j=P:=by omega
       have HFz:=Lib.hid (show fstL F (walkD s r)=F' by rw[HFe2.out,←HPw.out,List.take_length])
       go_wp2_with fail
       go_roundg (l-(k+1))
       case measure=>omega
       case rel=>exact⟨k+1,F',by omega,by omega,by go_num,by rw[HFl.out,HFz.out],HFk2.out,HE7.out,HM7.out,HR7.out⟩
    ·obtain rfl:k=l:=by omega
     have hFG:F=G:=by rw[HFe.out,HG.out,←HLr.out,List.take_length]
     subst hFG
     have hNl:=HNl.out
     rw[hNl] at HM
     obtain⟨x0,x1,x2,_⟩:=boxC_cells (HB1.out _ HE.out).1
     obtain⟨i0,hi0,hz0,hz1,hz2⟩:=info_parts int_info
     clear HRo HFk
     go_wp2_with (first|(refine wpList_make_full _ rfl _ _ 25 rfl wr.heap.size 3 i0 (.int .i64 0) 1 Tryz.underlying25 hi0 hz0 hz1 .i64 .i64 (n:Int) (n:Int) n rfl rfl rfl rfl ?q1 ?q2 (Nat.le_refl _) ?_))
     case q1=>rw[hz2];omega
     case q2=>unfold maxLen;omega
     intro w6 ho6 hg6
     have HE6:=Lib.hid (HE.out.grown hg6 (by simp))
     have HM6:=Lib.hid (HM.out.kept hg6 (by simp))
     have hO6:OwnI R wr.heap.size 3 w6 (.slice (some ⟨wr.heap.size,0,none⟩) n n) (outTo n F 0):=by rw[outTo_zero];exact OwnI.made HE.out.inv ho6
     have hbg:b<wr.heap.size:=HM.out.lt
     obtain⟨g6,hg6e⟩:∃ g,wr.heap.size=g:=⟨_,rfl⟩
     have HBg:=Lib.hid (show b<g6 by rw[←hg6e];exact hbg)
     have HWg:=Lib.hid (show wa.heap.size≤g6 by rw[←hg6e];exact HE.out.size)
     rw[hg6e] at hO6 ⊢
     have HO6:=Lib.hid hO6
     clear ho6 hg6 hO6 hg6e hbg x0 x1 x2 hi0 hz0 hz1 hz2
     go_wp2_with fail
     go_loopg [111] n (fun g v111 wr=>∃ i:Nat,i≤n∧n-i≤g∧v111=.int .i64 (i:Int)∧Ev R wa R wr∧FMap R wr b n (nmO F) n∧OwnI R g6 3 wr (.slice (some ⟨g6,0,none⟩) n n) (outTo n F i))
     case atStart=>exact⟨0,Nat.zero_le _,by omega,rfl,HE6.out,HM6.out,HO6.out⟩
     case round=>
      obtain⟨i,hi,hg3,rfl,hev,hm,ho⟩:=hrel
      have HE7:=Lib.hid hev
      have HM7:=Lib.hid hm
      have HO7:=Lib.hid ho
      clear hev hm ho
      by_cases hin:i<n
      ·have hlk:=HM7.out.look (i:Int) (by omega)
       rw[nmO_nat,if_pos (HAl.out i hin)] at hlk
       have hos:=outTo_set (n:=n) (F:=F) (i:=i)
       obtain⟨y,hy⟩:∃ y,nmF F i=y:=⟨_,rfl⟩
       rw[hy] at hlk hos
       have hlk':(Instr.lookup 157 (.map (some b)) (.int .i64 (i:Int)) false).run Tryz.prog wr=.ok (.int .i64 (y:Int)) wr:=hlk
       obtain⟨_,e1,hBg,hRg,kc,zc⟩:=HO7.out.headAt (outTo_length n F i) hin
       cases e1
       have HPut:=Lib.hid (by have h:=HO7.out.put (outTo_length n F i) i hin (y:Int);rw[hos] at h;exact h:OwnI R g6 3 (wr.setCell ⟨g6,i,none⟩ (.int .i64 (y:Int))) (.slice (some ⟨g6,0,none⟩) n n) (outTo n F (i+1)))
       have HEp:=Lib.hid (HE7.out.setCell (p:=⟨g6,i,none⟩) HWg.out hRg (.int .i64 (y:Int)))
       have HMp:=Lib.hid (HM7.out.setCell (a:=⟨g6,i,none⟩) (show b≠g6 by have:=HBg.out;omega) (.int .i64 (y:Int)))
       clear hlk hos hy
       go_wp2_with fail
       go_roundg (n-(i+1))
       case measure=>omega
       case rel=>exact⟨i+1,by omega,by omega,by go_num,HEp.out,HMp.out,HPut.out⟩
      ·obtain rfl:i=n:=by omega
       go_wp2_with fail
       go_ret
       exact⟨_,rfl,HEa.out.trans HE7.out,HO7.out.mono (by have:=HEa.out.size;have:=HWg.out;omega)⟩
end
end Go.Proofs.YtklkgicjfnbndaaGreat
