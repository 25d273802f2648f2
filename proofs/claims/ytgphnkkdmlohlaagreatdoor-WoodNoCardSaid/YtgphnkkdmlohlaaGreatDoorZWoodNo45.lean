/- wood.Of: of nil, of what is no triangulation, of a triangulation. -/
import Derived.Test.YtgphnkkdmlohlaaGreatDoorZWoodNo41
import Derived.Test.YtgphnkkdmlohlaaGreatDoorZWoodNo42
import Derived.Test.YtgphnkkdmlohlaaGreatDoorZWoodNo28
import Derived.Test.YtgphnkkdmlohlaaGreatDoorZWoodNo11
import Derived.Test.YtgphnkkdmlohlaaGreatDoorZWoodNo40
import Derived.Test.YtgphnkkdmlohlaaGreatDoorZWoodNo14
import Derived.Test.YtgphnkkdmlohlaaGreatDoorZWoodNo33
import Derived.Test.YtgphnkkdmlohlaaGreatDoorZWoodNo36
import Derived.Test.YtgphnkkdmlohlaaGreatDoorZWoodNo39
import Derived.Test.YtgphnkkdmlohlaaGreatDoorZWoodNo44
import Derived.Test.YtgphnkkdmlohlaaGreatDoorZWoodNo43
import Derived.Test.YtgphnkkdmlohlaaGreatDoorZWoodNo23
import Derived.Test.YtgphnkkdmlohlaaGreatDoorZWoodNo26
import Derived.Test.YtgphnkkdmlohlaaGreatDoorZWoodNo12
namespace Go.Proofs.YtgphnkkdmlohlaaGreatDoor
section
open Go.RowKit
set_option linter.unusedVariables false
set_option linter.unusedSimpArgs false
set_option linter.unusedSectionVars false
noncomputable def woodR (s:List Nat) (r:Nat):List Int:=woodL s r (plC (orderL s r))
section
variable {s : List Nat} (h : TriS s) {r : Nat} (hr : r < s.length)
include h hr
theorem plC_own:Place (orderL s r) (plC (orderL s r)):=plC_place (order_nodup h hr)
theorem pl_same {pl pl':Int→Nat} (hp:Place (orderL s r) pl) (hp':Place (orderL s r) pl') {x:Nat} (hx:x<s.length):plD s pl x=plD s pl' x:=by
 obtain⟨k1,k2⟩:=place_of h hr hp hx
 have:=hp' (pl (nth (namesL s) x)) (by rw[order_len h hr];exact k1)
 rw[k2] at this
 exact this.symm
theorem colZ_same {pl pl':Int→Nat} (hp:Place (orderL s r) pl) (hp':Place (orderL s r) pl') {x:Nat} (hx:x<s.length):colZ s r pl x=colZ s r pl' x:=by
 have hA:∀ y,y<s.length→ahZ s pl y=ahZ s pl' y:=fun y hy=>by
  unfold ahZ farP
  rw[pl_same h hr hp hp' hy,pl_same h hr hp hp' (xor_one_lt h.even hy)]
 have hm:=xor_one_lt h.even hx
 unfold colZ
 rw[hA x hx,hA _ (h.inv_lt hx).1,hA _ (h.perm.lt hx),hA _ (h.inv_lt hm).1,hA _ (h.perm.lt hm)]
theorem woodR_eq {pl:Int→Nat} (hp:Place (orderL s r) pl):woodL s r pl=woodR s r:=by
 refine ext_nth (by unfold woodR;rw[woodL_length,woodL_length]) fun x hx=>?_
 rw[woodL_length] at hx
 unfold woodR
 rw[woodL_at hx,woodL_at hx]
 exact colZ_same h hr hp (plC_own h hr) hx
end
theorem woodOf_nil (w:World):Calls Tryz.prog 15 #[.pointer none] w fun e w'=>e=.returned (.tuple #[.pointer none,.int .i64 2])∧w=w':=by
 have HC:=Lib.hid (wof_nil w)
 go_enter Tryz.func15,Tryz.ntmps15
 go_wp2_with fail
 refine HC.out.mono ?_
 rintro e w1 ⟨rfl,rfl⟩
 go_wp2_with fail
 go_ret2
 exact⟨rfl,rfl⟩
theorem woodOf_no (R:Reg) (w:World) (hI:Inv R w) (p:Value) (s:List Nat) (rt:Int) (lone:Nat) (hp:MapAt R p s rt lone) (h:triB s lone=false):
  Calls Tryz.prog 15 #[p] w (RetV R w (.tuple #[.pointer none,.int .i64 8])):=by
 have HC:=Lib.hid (wof_no R w hI p s rt lone hp h)
 obtain⟨b,rfl,hb⟩:=hp
 clear hb
 go_enter Tryz.func15,Tryz.ntmps15
 go_wp2_with fail
 refine HC.out.mono ?_
 rintro e w1 ⟨rfl,R1,he1⟩
 go_wp2_with fail
 go_ret2
 exact⟨rfl,R1,he1⟩
def RetWood (R:Reg) (w:World) (p:Value) (s:List Nat) (r:Nat) (e:Ending) (w':World):Prop:=∃ b R' D,e=.returned (.tuple #[.pointer (some ⟨b,0,none⟩),.int .i64 0])∧Ev R w R' w'∧DartsOf s D∧WoodAt R' w' b p s r (woodR s r) D
theorem WoodOwn.d5 {R0 R:Reg} {w0 w:World} {b:Nat} {p:Value} {c0 c1 c2:Int} {ao ad:Option Addr} {n co k cd:Nat} {O D:List Int} (h:WoodOwn R0 w0 R w b p c0 c1 c2 ao n co ad k cd O D):∀ R' w',Ev R w R' w'→w'.cell? ⟨b,5,none⟩=some (.slice ad D.length cd):=fun R' w' he=>by
 have hb:=(he.block b (lt_of_block h.box) h.nb).trans h.box
 rw[h.dl]
 exact cells_at hb 5
structure OfRows (R:Reg) (w:World) (ao:Option Addr) (B:Nat) (g4:Nat) (V c4 gP:Nat) (L P:List Int):Prop where
 ord:OwnI R B 3 w (.slice (some ⟨g4,0,none⟩) V c4) L
 pla:OwnI R B 3 w (.slice (some ⟨gP,0,none⟩) V V) P
 lt:∀ g,ao=some ⟨g,0,none⟩→g<B
theorem OfRows.ev {R R':Reg} {w w':World} {ao:Option Addr} {B g4 V c4 gP:Nat} {L P:List Int} (h:OfRows R w ao B g4 V c4 gP L P) (he:Ev R w R' w'):OfRows R' w' ao B g4 V c4 gP L P:=⟨h.ord.ev he,h.pla.ev he,h.lt⟩
theorem OfRows.cell {R R':Reg} {w w':World} {ao:Option Addr} {B g4 V c4 gP:Nat} {L P:List Int} (h:OfRows R w ao B g4 V c4 gP L P) (he:EvCell R w ao R' w'):OfRows R' w' ao B g4 V c4 gP L P:=
 ⟨he.own h.ord fun g e k=>by have:=h.lt g e;have:=(h.ord.lt g k).1;omega,he.own h.pla fun g e k=>by have:=h.lt g e;have:=(h.pla.lt g k).1;omega,h.lt⟩
set_option maxRecDepth 100000 in
set_option maxHeartbeats 6000000 in
theorem woodOf_tri (R:Reg) (w:World) (hI:Inv R w) (p:Value) (s:List Nat) (r:Nat) (hp:MapAt R p s (r:Int) 0) (h:TriS s) (hr:r<s.length):
  Calls Tryz.prog 15 #[p] w (RetWood R w p s r):=by
 have HO:=Lib.hid (wof_tri R w hI p s r hp h hr)
 obtain⟨hS,hok⟩:=hp.ok hI
 have HP:=Lib.hid hp
 have HT:=Lib.hid h
 have HR:=Lib.hid hr
 have hN:s.length≤131073:=hok.2.1
 have HNm:=Lib.hid hN
 have hVm:=sizesL_le hS
 obtain⟨b0,rfl,-⟩:=hp
 clear hI hok hS hr h
 go_enter Tryz.func15,Tryz.ntmps15
 go_wp2_with fail
 refine HO.out.mono ?_
 rintro e w1 ⟨b,R1,ao,co,ad,k,cd,D,rfl,hD,hw⟩
 as_aux_lemma=>
  have HW1:=Lib.hid hw
  have HDs:=Lib.hid hD
  have HOr:=Lib.hid (sorder_any R1 w1 hw.ev.inv _ s r (hw.ev.map HP.out) HT.out HR.out)
  clear hw hD HO
  go_wp2_with fail
  refine HOr.out.mono ?_
  rintro e w4 ⟨v4,R4,rfl,he4,ho4⟩
  as_aux_lemma=>
   obtain⟨V,hV⟩:∃ V,(sizesL s).length=V:=⟨_,rfl⟩
   have hVl:(orderL s r).length=V:=by rw[order_len HT.out HR.out,hV]
   have hV3:3≤V:=by rw[←hV];exact HT.out.big
   rw[hV] at hVm
   have HVq:=Lib.hid hV
   obtain⟨a4,c4,rfl,-⟩:=ho4.ints.open
   rw[hVl] at ho4 ⊢
   obtain⟨g4,rfl,-,-,-,-⟩:=ho4.headAt hVl (i:=0) (by omega)
   have HW4:=Lib.hid (HW1.out.step he4)
   have HO4:=Lib.hid ho4
   have HVl:=Lib.hid hVl
   have HLt:=Lib.hid (fun g (e:ao=some ⟨g,0,none⟩)=>(by subst e;exact (HW1.out.out.lt g rfl).2:g<w1.heap.size))
   have HS14:=Lib.hid he4.size
   have HBl:=Lib.hid (lt_of_block HW1.out.box)
   have HLo:=Lib.hid (fun g e=>(HW1.out.out.lt g e).2)
   have HLd:=Lib.hid (fun g e=>(HW1.out.dar.lt g e).2)
   have HWs:=Lib.hid HW1.out.ev.size
   clear he4 ho4 HOr hVl hV HW1
   obtain⟨i0,hi,hz0,hz1,hz2⟩:=info_parts int_info
   go_wp2_with (refine wpList_make_full _ rfl _ _ 25 rfl w1.heap.size 3 i0 (.int .i64 0) 1 Tryz.underlying25 hi hz0 hz1 .i64 .i64 (V:Int) (V:Int) V rfl rfl rfl rfl ?q1 ?q2 HS14.out ?_)
   case q1=>rw[hz2];omega
   case q2=>unfold maxLen;omega
   intro w5 ho5 hg5
   have hos:=OwnI.made HW4.out.ev.inv ho5
   have he5:=(Ev.refl HW4.out.ev.inv).grown hg5 (by simp)
   have HW5:=Lib.hid (HW4.out.step he5)
   have HO5:=Lib.hid (HO4.out.ev he5)
   have HS5:=Lib.hid hos
   have HNe:=Lib.hid (show g4≠w4.heap.size by have:=(HO4.out.lt g4 rfl).2;omega)
   have HNo:=Lib.hid (order_nodup HT.out HR.out)
   have HMe:=Lib.hid (fun v (hv:v∈orderL s r)=>by have:=(order_mem HT.out HR.out v).1 hv;rwa [HVq.out] at this)
   obtain⟨gP,hgP⟩:∃ x,w4.heap.size=x:=⟨_,rfl⟩
   rw[hgP] at HS5 HNe ⊢
   clear ho5 hg5 hos he5 HW4 HO4
   go_wp2_with fail
   go_loopg [34] V (fun g v34 wr=>∃ (i:Nat) (P:List Int),i≤V∧V-i≤g∧v34=.int .i64 (i:Int)∧WoodOwn R w R4 wr b (.pointer (some ⟨b0,0,none⟩)) (nth (namesL s) r) (nth (namesL s) (at' (phiL s) r)) (nth (namesL s) (at' (phiL s) (at' (phiL s) r))) ao s.length co ad k cd (List.replicate s.length (-1)) D∧OwnI R4 w1.heap.size 3 wr (.slice (some ⟨g4,0,none⟩) V c4) (orderL s r)∧OwnI R4 w1.heap.size 3 wr (.slice (some ⟨gP,0,none⟩) V V) P∧PlTo P (orderL s r) V i)
   case atStart=>exact⟨0,_,Nat.zero_le _,by omega,rfl,HW5.out,HO5.out,HS5.out,PlTo.start _ _⟩
   case round=>
    obtain⟨i,P,hiV,hg,rfl,hw,ho,hs,hP⟩:=hrel
    as_aux_lemma=>
     have HW:=Lib.hid hw
     have HO:=Lib.hid ho
     have HS:=Lib.hid hs
     have HPt:=Lib.hid hP
     clear hw ho hs hP HO5 HS5 HW5
     by_cases hil:i<V
     ·obtain⟨_,e,_,_,hc,_⟩:=HO.out.headAt HVl.out (i:=i) hil
      cases e
      have hvm:=HMe.out _ (nth_mem (show i<(orderL s r).length by rw[HVl.out];exact hil))
      obtain⟨k',hk⟩:∃ k,(nth (orderL s r) i).toNat=k:=⟨_,rfl⟩
      have hkV:k' < V:=by omega
      have hki:nth (orderL s r) i=(k':Int):=by omega
      rw[hki] at hc
      obtain⟨gx,e2,hgb,hgn,hcx,hzx⟩:=HS.out.headAt HPt.out.1 hkV
      cases e2
      have hst:=HS.out.put HPt.out.1 k' hkV (i:Int)
      have hps:=HPt.out.step HNo.out HMe.out (by rw[HVl.out];exact hil)
      rw[hk] at hps
      have HST:=Lib.hid hst
      have HPS:=Lib.hid hps
      have HOS:=Lib.hid (HO.out.setCell (a:=⟨gP,k',none⟩) (fun e=>by simp[Value.ownBlock] at e;exact HNe.out e) (.int .i64 (i:Int)))
      have hgP1:=hgb
      have HWS:Hid (WoodOwn R w R4 (wr.setCell ⟨gP,k',none⟩ (.int .i64 (i:Int))) b (.pointer (some ⟨b0,0,none⟩)) (nth (namesL s) r) (nth (namesL s) (at' (phiL s) r)) (nth (namesL s) (at' (phiL s) (at' (phiL s) r))) ao s.length co ad k cd (List.replicate s.length (-1)) D):=Lib.hid ⟨HW.out.ev.setCell (p:=⟨gP,k',none⟩) (Nat.le_trans HWs.out hgb) hgn _,HW.out.lo,HW.out.nb,by rw[Below.heap_setCell _ _ _ _ (fun e=>by have:=HBl.out;have e:b=gP:=e;omega)];exact HW.out.box,HW.out.out.setCell (fun e=>by have:=HLo.out _ e;have:gP=(⟨gP,k',none⟩:Addr).block:=rfl;omega) _,HW.out.ol,HW.out.dar.setCell (fun e=>by have:=HLd.out _ e;have:gP=(⟨gP,k',none⟩:Addr).block:=rfl;omega) _,HW.out.dl,HW.out.d1,HW.out.d2,HW.out.d3⟩
      clear hst hps hki hvm hk hgP1
      go_wp2_with fail
      go_roundg (V-(i+1))
      case measure=>omega
      case rel=>exact⟨i+1,_,by omega,by omega,by go_num,HWS.out,HOS.out,by (first|exact HST.out|simpa using HST.out),HPS.out⟩
     ·obtain rfl:V=i:=by omega
      obtain⟨wd,hwd⟩:∃ wd:World,wd=wr:=⟨_,rfl⟩
      subst hwd
      as_aux_lemma=>
       have hP:=HPt.out
       rw[←HVq.out] at hP
       have HPl:=Lib.hid (hP.pl HT.out HR.out)
       have HRw:Hid (OfRows R4 wd ao w1.heap.size g4 V c4 gP (orderL s r) P):=Lib.hid ⟨HO.out,HS.out,HLt.out⟩
       obtain⟨N,hNe⟩:∃ N,s.length=N:=⟨_,rfl⟩
       have HNq:=Lib.hid hNe
       have HOu:=Lib.hid (OutIs.start HT.out HR.out HPl.out)
       rw[hNe] at HW HOu
       have hc4:V≤c4:=by
        obtain⟨_,_,e,hle,_,_⟩:=HO.out.ints
        cases e
        have:=HVl.out
        omega
       have hc2:¬ c4=2:=by omega
       clear hP HNo HO HS HLt HS14 hNe
       go_wp2_with fail
       obtain⟨M,hM⟩:∃ M,V-2=M:=⟨_,rfl⟩
       rw[hM]
       obtain⟨cc,hcc⟩:∃ M,c4-2=M:=⟨_,rfl⟩
       rw[hcc]
       have HM:=Lib.hid hM
       have hMb:M≤131073:=by omega
       clear hM hcc
       go_loopg [47] M (fun g v47 wq=>∃ (j:Nat) (R7:Reg) (O:List Int),j≤M∧M-j≤g∧v47=.int .i64 (j:Int)∧WoodOwn R w R7 wq b (.pointer (some ⟨b0,0,none⟩)) (nth (namesL s) r) (nth (namesL s) (at' (phiL s) r)) (nth (namesL s) (at' (phiL s) (at' (phiL s) r))) ao N co ad k cd O D∧OfRows R7 wq ao w1.heap.size g4 V c4 gP (orderL s r) P∧OutIs s r (plP P) O (fun y=>lateX s (plP P) y<j+2))
       case atStart=>exact⟨0,R4,_,Nat.zero_le _,by omega,rfl,HW.out,HRw.out,HOu.out⟩
       case round=>
        obtain⟨j,R7,O,hjM,hg7,rfl,hw7,hr7,ho7⟩:=hrel
        as_aux_lemma=>
         have HW7:=Lib.hid hw7
         have HR7:=Lib.hid hr7
         have HO7:=Lib.hid ho7
         clear hw7 hr7 ho7 HW HRw HOu
         by_cases hjl:j<M
         ·have hiV2:j+2<(sizesL s).length:=by rw[HVq.out];have:=HM.out;omega
          obtain⟨_,e,-,-,hc,-⟩:=HR7.out.ord.headAt HVl.out (i:=2+j) (by have:=HM.out;omega)
          cases e
          have hvm:=HMe.out _ (nth_mem (show j+2<(orderL s r).length by rw[HVl.out];have:=HM.out;omega))
          obtain⟨v,hv⟩:∃ v:Nat,nth (orderL s r) (j+2)=(v:Int):=⟨(nth (orderL s r) (j+2)).toNat,by omega⟩
          rw[show nth (orderL s r) (2+j)=(v:Int) by rw[Nat.add_comm 2 j];exact hv] at hc
          obtain⟨u,q,J,hE,hec,hen⟩:=ends_at HT.out HR.out HPl.out (i:=j+2) (by omega) hiV2
          have HEn:=Lib.hid (ends_any R7 wr HW7.out.ev.inv _ s r (HW7.out.ev.map HP.out) HT.out HR.out b HW7.out.wbox ad cd D HW7.out.d5 (by rw[HW7.out.dl];exact HW7.out.dar.free) HDs.out _ V V P HVq.out HR7.out.pla.free HPt.out (j+2) (by omega) (by rw[←HVq.out];exact hiV2) v hv u q J hE hec hen)
          have HEa:=Lib.hid hE
          have hul:=hE.ul
          have hql:=hE.ql
          rw[HNq.out] at hul hql
          have HI2:=Lib.hid hiV2
          clear hvm hE hec hen hv hiV2
          go_wp2_with fail
          refine HEn.out.mono ?_
          rintro e w8 ⟨rfl,R8,he8⟩
          have HW8:=Lib.hid (HW7.out.step he8)
          have HR8:=Lib.hid (HR7.out.ev he8)
          have HPa:=Lib.hid (paint_any HW8.out (HW8.out.ev.map HP.out) HT.out HNq.out u hul 1)
          clear he8 HEn HW7 HR7 hc
          go_wp2_with fail
          refine HPa.out.mono ?_
          rintro e w9 ⟨rfl,R9,he9,hw9⟩
          as_aux_lemma=>
           have HW9:=Lib.hid hw9
           have HR9:=Lib.hid (HR8.out.cell he9)
           have HO9:=Lib.hid (HEa.out.first HT.out HR.out HPl.out HI2.out HO7.out)
           have hSg:=sigma_any R9 w9 hw9.ev.inv _ s (r:Int) 0 (hw9.ev.map HP.out) (u:Int)
           rw[atI_in HEa.out.ul] at hSg
           have HSg:=Lib.hid hSg
           have HI1:=Lib.hid (show at' s u=itf (at' s) 1 u from rfl)
           rw[HI1.out] at HSg
           have hJ0:=HEa.out.J0
           clear he9 hw9 HPa HW8 HR8 HO7 hSg
           go_wp2_with fail
           refine HSg.out.mono ?_
           rintro e w10 ⟨rfl,rfl⟩
           clear HSg
           go_wp2_with fail
           go_loopg [15] J (fun g v15 wp=>∃ (l:Nat) (R10:Reg) (O:List Int),1≤l∧l≤J∧J-l≤g∧v15=.int .i64 ((itf (at' s) l u:Nat):Int)∧WoodOwn R w R10 wp b (.pointer (some ⟨b0,0,none⟩)) (nth (namesL s) r) (nth (namesL s) (at' (phiL s) r)) (nth (namesL s) (at' (phiL s) (at' (phiL s) r))) ao N co ad k cd O D∧OfRows R10 wp ao w1.heap.size g4 V c4 gP (orderL s r) P∧OutIs s r (plP P) O (PartP s (plP P) (j+2) u l))
           case atStart=>exact⟨1,R9,_,by omega,hJ0,by omega,rfl,HW9.out,HR9.out,HO9.out⟩
           case round=>
            obtain⟨l,R10,O10,hl1,hlJ,hg10,rfl,hw10,hr10,ho10⟩:=hrel
            as_aux_lemma=>
             have HW10:=Lib.hid hw10
             have HR10:=Lib.hid hr10
             have HO10:=Lib.hid ho10
             clear hw10 hr10 ho10 HW9 HR9 HO9
             obtain⟨il,-⟩:=it_in HT.out HR.out HPl.out HEa.out.ul l
             by_cases hlt:l<J
             ·have hne:¬ ((itf (at' s) l u:Nat):Int)=(q:Int):=fun e=>HEa.out.one l hlt (by omega)
              have hb:(((itf (at' s) l u:Nat):Int) != (q:Int))=true:=by simpa using hne
              have hN10:=HEa.out.next HT.out HR.out HPl.out HI2.out (by omega) hlt HO10.out
              have hMt:=mate_any R10 wr HW10.out.ev.inv _ s (r:Int) 0 (HW10.out.ev.map HP.out) ((itf (at' s) l u:Nat):Int)
              rw[mateI_in il] at hMt
              have hml:=xor_one_lt HT.out.even il
              have HSg:=Lib.hid (fun R' w' (he:Ev R w R' w')=>by
               have:=sigma_any R' w' he.inv _ s (r:Int) 0 (he.map HP.out) ((itf (at' s) l u:Nat):Int)
               rwa [atI_in il,show at' s (itf (at' s) l u)=itf (at' s) (l+1) u from (itf_succ ..).symm] at this)
              obtain⟨x,hx⟩:∃ x,itf (at' s) l u=x:=⟨_,rfl⟩
              rw[hx] at hne hb hN10 hMt hml HSg ⊢
              obtain⟨y,hy⟩:∃ y,x ^^^ 1=y:=⟨_,rfl⟩
              rw[hy] at hN10 hMt hml
              have HN10:=Lib.hid hN10
              have HMt:=Lib.hid hMt
              have HPa:=Lib.hid (paint_any HW10.out (HW10.out.ev.map HP.out) HT.out HNq.out y (by rw[←HNq.out];exact hml) 0)
              clear hN10 hMt hml hx hy hne il
              go_wp2_with fail
              refine HMt.out.mono ?_
              rintro e w11 ⟨rfl,rfl⟩
              go_wp2_with fail
              refine HPa.out.mono ?_
              rintro e w12 ⟨rfl,R12,he12,hw12⟩
              have HW12:=Lib.hid hw12
              have HR12:=Lib.hid (HR10.out.cell he12)
              have HSg:=Lib.hid (HSg.out _ _ hw12.ev)
              clear he12 hw12 HPa HMt
              go_wp2_with fail
              refine HSg.out.mono ?_
              rintro e w13 ⟨rfl,rfl⟩
              go_wp2_with fail
              go_roundg (J-(l+1))
              case measure=>omega
              case rel=>exact⟨l+1,R12,_,by omega,by omega,by omega,rfl,HW12.out,HR12.out,HN10.out⟩
             ·obtain rfl:J=l:=by omega
              have hq:itf (at' s) J u=q:=HEa.out.uq
              rw[hq]
              have hb:((q:Int) != (q:Int))=false:=by simp
              have HN10:=Lib.hid (HEa.out.done HT.out HR.out HPl.out HI2.out HO10.out)
              have HPa:=Lib.hid (paint_any HW10.out (HW10.out.ev.map HP.out) HT.out HNq.out q hql 2)
              clear hq il
              go_wp2_with fail
              refine HPa.out.mono ?_
              rintro e w12 ⟨rfl,R12,he12,hw12⟩
              have HW12:=Lib.hid hw12
              have HR12:=Lib.hid (HR10.out.cell he12)
              clear he12 hw12 HPa
              go_wp2_with fail
              go_roundg (M-(j+1))
              case measure=>omega
              case rel=>exact⟨j+1,R12,_,by omega,by omega,by go_num,HW12.out,HR12.out,HN10.out⟩
         ·obtain rfl:M=j:=by omega
          have hfin:O=woodR s r:=by
           have e:M+2=(sizesL s).length:=by rw[HVq.out];have:=HM.out;omega
           have k:=HO7.out
           rw[e] at k
           rw[OutIs.all HT.out HR.out HPl.out k,woodR_eq HT.out HR.out HPl.out]
          have HWf:=Lib.hid HW7.out
          rw[hfin] at HWf
          clear hfin
          go_wp2_with fail
          go_ret2
          exact⟨b,R7,D,rfl,HWf.out.ev,HDs.out,HWf.out.at⟩
end
section
open Go.RowKit
set_option linter.unusedVariables false
set_option linter.unusedSimpArgs false
set_option linter.unusedSectionVars false
theorem whas_nil (w:World) (v c:Int):Calls Tryz.prog 51 #[.pointer none,.int .i64 v,.int .i64 c] w fun e w'=>w'=w∧e=.returned (.bool false):=by
 go_enter Tryz.func51,Tryz.ntmps51
 go_wp2_with fail
 go_ret
 exact⟨rfl,rfl⟩
theorem whas_any (w:World) (b:Nat) (ad:Option Addr) (V cd:Nat) (h5:w.cell? ⟨b,5,none⟩=some (.slice ad V cd)) (v c:Int) (k:Bool) (hk:decide (0≤v∧v<(V:Int)∧0≤c∧c<3)=k):
  Calls Tryz.prog 51 #[.pointer (some ⟨b,0,none⟩),.int .i64 v,.int .i64 c] w fun e w'=>w'=w∧e=.returned (.bool k):=by
 by_cases a1:0≤v
 ·have b1:decide (0≤v)=true:=decide_eq_true a1
  by_cases a2:v<(V:Int)
  ·have b2:decide (v<(V:Int))=true:=decide_eq_true a2
   by_cases a3:0≤c
   ·have b3:decide (0≤c)=true:=decide_eq_true a3
    by_cases a4:c<3
    ·have b4:decide (c<3)=true:=decide_eq_true a4
     have hk:=Lib.hid (show k=true by rw[←hk];exact decide_eq_true ⟨a1,a2,a3,a4⟩)
     go_enter Tryz.func51,Tryz.ntmps51
     go_wp2_with fail
     go_ret
     exact⟨rfl,by rw[hk.out];rfl⟩
    ·have b4:decide (c<3)=false:=decide_eq_false a4
     have hk:=Lib.hid (show k=false by rw[←hk];exact decide_eq_false fun q=>a4 q.2.2.2)
     go_enter Tryz.func51,Tryz.ntmps51
     go_wp2_with fail
     go_ret
     exact⟨rfl,by rw[hk.out];rfl⟩
   ·have b3:decide (0≤c)=false:=decide_eq_false a3
    have hk:=Lib.hid (show k=false by rw[←hk];exact decide_eq_false fun q=>a3 q.2.2.1)
    go_enter Tryz.func51,Tryz.ntmps51
    go_wp2_with fail
    go_ret
    exact⟨rfl,by rw[hk.out];rfl⟩
  ·have b2:decide (v<(V:Int))=false:=decide_eq_false a2
   have hk:=Lib.hid (show k=false by rw[←hk];exact decide_eq_false fun q=>a2 q.2.1)
   go_enter Tryz.func51,Tryz.ntmps51
   go_wp2_with fail
   go_ret
   exact⟨rfl,by rw[hk.out];rfl⟩
 ·have b1:decide (0≤v)=false:=decide_eq_false a1
  have hk:=Lib.hid (show k=false by rw[←hk];exact decide_eq_false fun q=>a1 q.1)
  go_enter Tryz.func51,Tryz.ntmps51
  go_wp2_with fail
  go_ret
  exact⟨rfl,by rw[hk.out];rfl⟩
section
variable (R : Reg) (w : World) (hI : Inv R w) (p : Value) (s : List Nat) (r : Nat) (hp : MapAt R p s (r : Int) 0) (h : TriS s) (b : Nat) (O D : List Int) (hA : WoodAt R w b p s r O D) (hOl : O.length = s.length)
include hI hp h hA hOl
variable (hDs : DartsOf s D)
include hDs
end
end
section
open Go.RowKit
set_option linter.unusedVariables false
set_option linter.unusedSimpArgs false
set_option linter.unusedSectionVars false
section
variable (R : Reg) (w : World) (hI : Inv R w) (p : Value) (s : List Nat) (r : Nat) (hp : MapAt R p s (r : Int) 0) (h : TriS s) (b : Nat) (O D : List Int) (hA : WoodAt R w b p s r O D) (hOl : O.length = s.length)
variable (hDs : DartsOf s D)
include hI hp h hA hOl hDs
end
end
section
open Go.RowKit
set_option linter.unusedVariables false
set_option linter.unusedSimpArgs false
set_option linter.unusedSectionVars false
section
variable {s : List Nat} (h : TriS s) {r : Nat} (hr : r < s.length)
include h hr
theorem woodR_at {x:Nat} (hx:x<s.length):nth (woodR s r) x=colZ s r (plC (orderL s r)) x:=woodL_at hx
theorem woodR_len:(woodR s r).length=s.length:=woodL_length _ _ _
end
section
variable (R : Reg) (w : World) (hI : Inv R w) (p : Value) (s : List Nat) (r : Nat) (hp : MapAt R p s (r : Int) 0) (h : TriS s) (hr : r < s.length) (b : Nat) (D : List Int) (hA : WoodAt R w b p s r (woodR s r) D) (hDs : DartsOf s D)
include hI hp h hr hA hDs
end
end
section
open Go.RowKit
set_option linter.unusedVariables false
theorem FreeI.six14 {R:Reg} {w:World} (hI:Inv R w) (a b c d e f:Int):FreeI R (w.alloc (.cells #[.int .i64 a,.int .i64 b,.int .i64 c,.int .i64 d,.int .i64 e,.int .i64 f] 3)) (.slice (some ⟨w.heap.size,0,none⟩) 6 6) [a,b,c,d,e,f]:=by
 have h:=World.ownsRow_lit (base:=w.heap.size) (e:=3) (size:=1) w #[.int .i64 a,.int .i64 b,.int .i64 c,.int .i64 d,.int .i64 e,.int .i64 f] 6 (Nat.le_refl _) (by simp[maxLen]) rfl
 have ho:OwnI R w.heap.size 3 (w.alloc (.cells #[.int .i64 a,.int .i64 b,.int .i64 c,.int .i64 d,.int .i64 e,.int .i64 f] 3)) (.slice (some ⟨w.heap.size,0,none⟩) 6 6) [a,b,c,d,e,f]:=by
  refine⟨by simpa using h,fun k hk=>?_⟩
  simp only[Value.ownBlock,Option.some.injEq] at hk
  rw[←hk]
  exact hI.none_of_ge (Nat.le_refl _)
 exact ho.free
end
section
open Go.RowKit
set_option linter.unusedVariables false
set_option linter.unusedSimpArgs false
theorem wlist_nil (w:World):Calls Tryz.prog 14 #[.pointer none] w fun e w'=>w'=w∧e=.returned nilS:=by
 go_enter Tryz.func14,Tryz.ntmps14
 go_wp2_with fail
 go_ret
 exact⟨rfl,rfl⟩
theorem wlist_any (R:Reg) (w:World) (hI:Inv R w) (b:Nat) (p:Value) (s:List Nat) (r:Nat) (O D:List Int) (hA:WoodAt R w b p s r O D) (hn:O.length≤4194304):
  Calls Tryz.prog 14 #[.pointer (some ⟨b,0,none⟩)] w (RetOwn R w O):=by
 obtain⟨ao,co,ad,cd,h1,h2,h3,h4⟩:=hA
 have HC:=Lib.hid (clone_any R w hI _ O h3.1 hn)
 have z4:=cells_at h1 4
 clear hI h1 h2 h3 h4
 go_enter Tryz.func14,Tryz.ntmps14
 go_wp2_with fail
 refine HC.out.mono ?_
 rintro e w1 ⟨v1,rfl,he1,ho1⟩
 have H1:=Lib.hid he1
 have H2:=Lib.hid ho1
 clear he1 ho1
 obtain⟨a1,c1,rfl,-⟩:=H2.out.ints.open
 go_wp2_with fail
 go_ret
 exact⟨_,rfl,H1.out,H2.out⟩
set_option maxRecDepth 100000 in
set_option maxHeartbeats 1000000 in
theorem of15_any (R:Reg) (w:World) (hI:Inv R w) (v:Value) (s:List Nat) (root lone:Int) (hv:FreeI R w v (toI s)) (hS:IsPerm s) (hok:MapOk s root lone):
  Calls Tryz.prog 11 #[refV v root lone] w fun e w'=>∃ p R',e=.returned p∧Ev R w R' w'∧MapAt R' p s root lone:=by
 obtain⟨a0,cap0,rfl,_⟩:=hv.open
 rw[toI_length] at hv ⊢
 unfold refV
 have he1:Ev R w R (w.alloc (.cells #[.slice a0 s.length cap0,.int .i64 root,.int .i64 lone] 27)):=(Ev.refl hI).alloc _
 have HN:=Lib.hid (new_yes R _ he1.inv _ s (hv.ev he1) root lone hS hok)
 have HE1:=Lib.hid he1
 clear hI hv hS hok he1
 go_enter Tryz.func11,Tryz.ntmps11
 go_wp2_with fail
 refine HN.out.mono ?_
 rintro e w2 ⟨p,R2,rfl,he2,hp⟩
 have HE2:=Lib.hid (HE1.out.trans he2)
 have HP:=Lib.hid hp
 clear he2 hp
 go_wp2_with fail
 go_ret
 exact⟨_,R2,rfl,HE2.out,HP.out⟩
end
section
open Go.RowKit
set_option linter.unusedVariables false
set_option linter.unusedSimpArgs false
theorem wmap_nil (w:World):Calls Tryz.prog 17 #[.pointer none] w fun e w'=>w'=w∧e=.returned (.pointer none):=by
 go_enter Tryz.func17,Tryz.ntmps17
 go_wp2_with fail
 go_ret
 exact⟨rfl,rfl⟩
theorem wout_nil (w:World) (d:Int):Calls Tryz.prog 18 #[.pointer none,.int .i64 d] w fun e w'=>w'=w∧e=.returned (.int .i64 (-1)):=by
 go_enter Tryz.func18,Tryz.ntmps18
 go_wp2_with fail
 go_ret
 exact⟨rfl,rfl⟩
theorem wchildren_no (w:World) (p:Value) (v c:Int) (h:Calls Tryz.prog 51 #[p,.int .i64 v,.int .i64 c] w fun e w'=>w'=w∧e=.returned (.bool false)):Calls Tryz.prog 20 #[p,.int .i64 v,.int .i64 c] w fun e w'=>w'=w∧e=.returned nilS:=by
 have H:=Lib.hid h
 clear h
 go_enter Tryz.func20,Tryz.ntmps20
 go_wp2_with fail
 refine H.out.mono ?_
 rintro e w' ⟨rfl,rfl⟩
 go_wp2_with fail
 go_ret
 exact⟨rfl,rfl⟩
theorem wpath_no (w:World) (p:Value) (v c:Int) (h:Calls Tryz.prog 51 #[p,.int .i64 v,.int .i64 c] w fun e w'=>w'=w∧e=.returned (.bool false)):Calls Tryz.prog 21 #[p,.int .i64 v,.int .i64 c] w fun e w'=>w'=w∧e=.returned nilS:=by
 have H:=Lib.hid h
 clear h
 go_enter Tryz.func21,Tryz.ntmps21
 go_wp2_with fail
 refine H.out.mono ?_
 rintro e w' ⟨rfl,rfl⟩
 go_wp2_with fail
 go_ret
 exact⟨rfl,rfl⟩
theorem wparent_no (w:World) (p:Value) (v c:Int) (h:Calls Tryz.prog 51 #[p,.int .i64 v,.int .i64 c] w fun e w'=>w'=w∧e=.returned (.bool false)):Calls Tryz.prog 22 #[p,.int .i64 v,.int .i64 c] w fun e w'=>w'=w∧e=.returned (.int .i64 (-1)):=by
 have H:=Lib.hid h
 clear h
 go_enter Tryz.func22,Tryz.ntmps22
 go_wp2_with fail
 refine H.out.mono ?_
 rintro e w' ⟨rfl,rfl⟩
 go_wp2_with fail
 go_ret
 exact⟨rfl,rfl⟩
theorem wmake_nil (w:World) (v:Value):Calls Tryz.prog 10 #[.pointer none,v] w fun e w'=>w'=w∧e=.returned (.tuple #[.pointer none,.int .i64 2]):=by
 have HC:=Lib.hid (wof_nil w)
 go_enter Tryz.func10,Tryz.ntmps10
 go_wp2_with fail
 refine HC.out.mono ?_
 rintro e w1 ⟨rfl,rfl⟩
 go_wp2_with fail
 go_ret2
 exact⟨rfl,rfl⟩
theorem wmake_no (R:Reg) (w:World) (hI:Inv R w) (p:Value) (s:List Nat) (rt:Int) (lone:Nat) (hp:MapAt R p s rt lone) (h:triB s lone=false) (v:Value):
  Calls Tryz.prog 10 #[p,v] w (RetV R w (.tuple #[.pointer none,.int .i64 8])):=by
 have HC:=Lib.hid (wof_no R w hI p s rt lone hp h)
 obtain⟨b,rfl,hb⟩:=hp
 clear hb
 go_enter Tryz.func10,Tryz.ntmps10
 go_wp2_with fail
 refine HC.out.mono ?_
 rintro e w1 ⟨rfl,R1,he1⟩
 go_wp2_with fail
 go_ret2
 exact⟨rfl,R1,he1⟩
set_option maxHeartbeats 1000000 in
theorem wmake_len (R:Reg) (w:World) (hI:Inv R w) (p:Value) (s:List Nat) (r:Nat) (hp:MapAt R p s (r:Int) 0) (h:TriS s) (hr:r<s.length) (a:Option Addr) (n c:Nat) (hn:n≠s.length) (hn2:n≤4194304):
  Calls Tryz.prog 10 #[p,.slice a n c] w (RetV R w (.tuple #[.pointer none,.int .i64 1])):=by
 have HC:=Lib.hid (wof_tri R w hI p s r hp h hr)
 have HDt:=Lib.hid (fun R' w' (he:Ev R w R' w')=>darts_any R' w' he.inv p s (r:Int) 0 (he.map hp))
 have hN:s.length≤131073:=(hp.ok hI).2.2.1
 obtain⟨N,hNe⟩:∃ N,s.length=N:=⟨_,rfl⟩
 rw[hNe] at HDt hn hN
 obtain⟨bp,rfl,hb⟩:=hp
 clear hb hI h hr hNe
 go_enter Tryz.func10,Tryz.ntmps10
 go_wp2_with fail
 refine HC.out.mono ?_
 rintro e w1 ⟨b,R1,ao,co,ad,k,cd,D,rfl,hDs,hw⟩
 have HE1:=Lib.hid hw.ev
 have HD1:=Lib.hid (HDt.out _ _ hw.ev)
 have hb4:((n:Int) != (N:Int))=true:=by simp;omega
 clear hDs hw HC HDt hn
 go_wp2_with fail
 refine HD1.out.mono ?_
 rintro e w2 ⟨rfl,rfl⟩
 go_wp2_with fail
 go_ret2
 exact⟨rfl,R1,HE1.out⟩
end
section
open Go.RowKit
set_option linter.unusedVariables false
set_option linter.unusedSimpArgs false
end
section
open Go.RowKit
set_option linter.unusedVariables false
set_option linter.unusedSimpArgs false
theorem nat_of_u16 {a:Int} (h:(Lit.int .u16 a).wf=true):∃ n:Nat,a=(n:Int)∧n≤65535:=by
 have hx:0≤a∧a≤65535:=by simpa [Lit.wf,IntKind.min,IntKind.max,IntKind.signed,IntKind.bits] using h
 exact⟨a.toNat,by omega,by omega⟩
end
end Go.Proofs.YtgphnkkdmlohlaaGreatDoor
