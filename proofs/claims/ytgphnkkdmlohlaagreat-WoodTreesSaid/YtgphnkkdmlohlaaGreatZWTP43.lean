/- wood.Of: of nil, of what is no triangulation, of a triangulation. -/
import Derived.Test.YtgphnkkdmlohlaaGreatZWTP40
import Derived.Test.YtgphnkkdmlohlaaGreatZWTP41
import Derived.Test.YtgphnkkdmlohlaaGreatZWTP29
import Derived.Test.YtgphnkkdmlohlaaGreatZWTP11
import Derived.Test.YtgphnkkdmlohlaaGreatZWTP42
import Derived.Test.YtgphnkkdmlohlaaGreatZWTP14
import Derived.Test.YtgphnkkdmlohlaaGreatZWTP20
import Derived.Test.YtgphnkkdmlohlaaGreatZWTP30
import Derived.Test.YtgphnkkdmlohlaaGreatZWTP38
namespace Go.Proofs.YtgphnkkdmlohlaaGreat
section
open Go.RowKit
set_option linter.unusedVariables false
set_option linter.unusedSimpArgs false
set_option linter.unusedSectionVars false
noncomputable def woodR (s:List Nat) (r:Nat):List Int:=woodL s r (plC (orderL s r))
section
variable {s : List Nat} (h : TriS s) {r : Nat} (hr : r < s.length)
include h hr
theorem plC_own:Place (orderL s r) (plC (orderL s r)):=plC_place (order_nodup h hr)
theorem pl_same {pl pl':Int→Nat} (hp:Place (orderL s r) pl) (hp':Place (orderL s r) pl') {x:Nat} (hx:x<s.length):plD s pl x=plD s pl' x:=by
 obtain⟨k1,k2⟩:=place_of h hr hp hx
 have:=hp' (pl (nth (namesL s) x)) (by rw[order_len h hr];exact k1)
 rw[k2] at this
 exact this.symm
theorem colZ_same {pl pl':Int→Nat} (hp:Place (orderL s r) pl) (hp':Place (orderL s r) pl') {x:Nat} (hx:x<s.length):colZ s r pl x=colZ s r pl' x:=by
 have hA:∀ y,y<s.length→ahZ s pl y=ahZ s pl' y:=fun y hy=>by
  unfold ahZ farP
  rw[pl_same h hr hp hp' hy,pl_same h hr hp hp' (xor_one_lt h.even hy)]
 have hm:=xor_one_lt h.even hx
 unfold colZ
 rw[hA x hx,hA _ (h.inv_lt hx).1,hA _ (h.perm.lt hx),hA _ (h.inv_lt hm).1,hA _ (h.perm.lt hm)]
theorem woodR_eq {pl:Int→Nat} (hp:Place (orderL s r) pl):woodL s r pl=woodR s r:=by
 refine ext_nth (by unfold woodR;rw[woodL_length,woodL_length]) fun x hx=>?_
 rw[woodL_length] at hx
 unfold woodR
 rw[woodL_at hx,woodL_at hx]
 exact colZ_same h hr hp (plC_own h hr) hx
end
def RetWood (R:Reg) (w:World) (p:Value) (s:List Nat) (r:Nat) (e:Ending) (w':World):Prop:=∃ b R' D,e=.returned (.tuple #[.pointer (some ⟨b,0,none⟩),.int .i64 0])∧Ev R w R' w'∧DartsOf s D∧WoodAt R' w' b p s r (woodR s r) D
theorem WoodOwn.d5 {R0 R:Reg} {w0 w:World} {b:Nat} {p:Value} {c0 c1 c2:Int} {ao ad:Option Addr} {n co k cd:Nat} {O D:List Int} (h:WoodOwn R0 w0 R w b p c0 c1 c2 ao n co ad k cd O D):∀ R' w',Ev R w R' w'→w'.cell? ⟨b,5,none⟩=some (.slice ad D.length cd):=fun R' w' he=>by
 have hb:=(he.block b (lt_of_block h.box) h.nb).trans h.box
 rw[h.dl]
 exact cells_at hb 5
structure OfRows (R:Reg) (w:World) (ao:Option Addr) (B:Nat) (g4:Nat) (V c4 gP:Nat) (L P:List Int):Prop where
 ord:OwnI R B 3 w (.slice (some ⟨g4,0,none⟩) V c4) L
 pla:OwnI R B 3 w (.slice (some ⟨gP,0,none⟩) V V) P
 lt:∀ g,ao=some ⟨g,0,none⟩→g<B
theorem OfRows.ev {R R':Reg} {w w':World} {ao:Option Addr} {B g4 V c4 gP:Nat} {L P:List Int} (h:OfRows R w ao B g4 V c4 gP L P) (he:Ev R w R' w'):OfRows R' w' ao B g4 V c4 gP L P:=⟨h.ord.ev he,h.pla.ev he,h.lt⟩
theorem OfRows.cell {R R':Reg} {w w':World} {ao:Option Addr} {B g4 V c4 gP:Nat} {L P:List Int} (h:OfRows R w ao B g4 V c4 gP L P) (he:EvCell R w ao R' w'):OfRows R' w' ao B g4 V c4 gP L P:=
 ⟨he.own h.ord fun g e k=>by have:=h.lt g e;have:=(h.ord.lt g k).1;omega,he.own h.pla fun g e k=>by have:=h.lt g e;have:=(h.pla.lt g k).1;omega,h.lt⟩
set_option maxRecDepth 100000 in
set_option maxHeartbeats 6000000 in
theorem woodOf_tri (R:Reg) (w:World) (hI:Inv R w) (p:Value) (s:List Nat) (r:Nat) (hp:MapAt R p s (r:Int) 0) (h:TriS s) (hr:r<s.length):
  Calls Tryz.prog 25 #[p] w (RetWood R w p s r):=by
 have HO:=Lib.hid (wof_tri R w hI p s r hp h hr)
 obtain⟨hS,hok⟩:=hp.ok hI
 have HP:=Lib.hid hp
 have HT:=Lib.hid h
 have HR:=Lib.hid hr
 have hN:s.length≤131073:=hok.2.1
 have HNm:=Lib.hid hN
 have hVm:=sizesL_le hS
 obtain⟨b0,rfl,-⟩:=hp
 clear hI hok hS hr h
 go_enter Tryz.func25,Tryz.ntmps25
 go_wp2_with fail
 refine HO.out.mono ?_
 rintro e w1 ⟨b,R1,ao,co,ad,k,cd,D,rfl,hD,hw⟩
 as_aux_lemma=>
  have HW1:=Lib.hid hw
  have HDs:=Lib.hid hD
  have HOr:=Lib.hid (sorder_any R1 w1 hw.ev.inv _ s r (hw.ev.map HP.out) HT.out HR.out)
  clear hw hD HO
  go_wp2_with fail
  refine HOr.out.mono ?_
  rintro e w4 ⟨v4,R4,rfl,he4,ho4⟩
  as_aux_lemma=>
   obtain⟨V,hV⟩:∃ V,(sizesL s).length=V:=⟨_,rfl⟩
   have hVl:(orderL s r).length=V:=by rw[order_len HT.out HR.out,hV]
   have hV3:3≤V:=by rw[←hV];exact HT.out.big
   rw[hV] at hVm
   have HVq:=Lib.hid hV
   obtain⟨a4,c4,rfl,-⟩:=ho4.ints.open
   rw[hVl] at ho4 ⊢
   obtain⟨g4,rfl,-,-,-,-⟩:=ho4.headAt hVl (i:=0) (by omega)
   have HW4:=Lib.hid (HW1.out.step he4)
   have HO4:=Lib.hid ho4
   have HVl:=Lib.hid hVl
   have HLt:=Lib.hid (fun g (e:ao=some ⟨g,0,none⟩)=>(by subst e;exact (HW1.out.out.lt g rfl).2:g<w1.heap.size))
   have HS14:=Lib.hid he4.size
   have HBl:=Lib.hid (lt_of_block HW1.out.box)
   have HLo:=Lib.hid (fun g e=>(HW1.out.out.lt g e).2)
   have HLd:=Lib.hid (fun g e=>(HW1.out.dar.lt g e).2)
   have HWs:=Lib.hid HW1.out.ev.size
   clear he4 ho4 HOr hVl hV HW1
   obtain⟨i0,hi,hz0,hz1,hz2⟩:=info_parts int_info
   go_wp2_with (refine wpList_make_full _ rfl _ _ 24 rfl w1.heap.size 3 i0 (.int .i64 0) 1 Tryz.underlying24 hi hz0 hz1 .i64 .i64 (V:Int) (V:Int) V rfl rfl rfl rfl ?q1 ?q2 HS14.out ?_)
   case q1=>rw[hz2];omega
   case q2=>unfold maxLen;omega
   intro w5 ho5 hg5
   have hos:=OwnI.made HW4.out.ev.inv ho5
   have he5:=(Ev.refl HW4.out.ev.inv).grown hg5 (by simp)
   have HW5:=Lib.hid (HW4.out.step he5)
   have HO5:=Lib.hid (HO4.out.ev he5)
   have HS5:=Lib.hid hos
   have HNe:=Lib.hid (show g4≠w4.heap.size by have:=(HO4.out.lt g4 rfl).2;omega)
   have HNo:=Lib.hid (order_nodup HT.out HR.out)
   have HMe:=Lib.hid (fun v (hv:v∈orderL s r)=>by have:=(order_mem HT.out HR.out v).1 hv;rwa [HVq.out] at this)
   obtain⟨gP,hgP⟩:∃ x,w4.heap.size=x:=⟨_,rfl⟩
   rw[hgP] at HS5 HNe ⊢
   clear ho5 hg5 hos he5 HW4 HO4
   go_wp2_with fail
   go_loopg [34] V (fun g v34 wr=>∃ (i:Nat) (P:List Int),i≤V∧V-i≤g∧v34=.int .i64 (i:Int)∧WoodOwn R w R4 wr b (.pointer (some ⟨b0,0,none⟩)) (nth (namesL s) r) (nth (namesL s) (at' (phiL s) r)) (nth (namesL s) (at' (phiL s) (at' (phiL s) r))) ao s.length co ad k cd (List.replicate s.length (-1)) D∧OwnI R4 w1.heap.size 3 wr (.slice (some ⟨g4,0,none⟩) V c4) (orderL s r)∧OwnI R4 w1.heap.size 3 wr (.slice (some ⟨gP,0,none⟩) V V) P∧PlTo P (orderL s r) V i)
   case atStart=>exact⟨0,_,Nat.zero_le _,by omega,rfl,HW5.out,HO5.out,HS5.out,PlTo.start _ _⟩
   case round=>
    obtain⟨i,P,hiV,hg,rfl,hw,ho,hs,hP⟩:=hrel
    as_aux_lemma=>
     have HW:=Lib.hid hw
     have HO:=Lib.hid ho
     have HS:=Lib.hid hs
     have HPt:=Lib.hid hP
     clear hw ho hs hP HO5 HS5 HW5
     by_cases hil:i<V
     ·obtain⟨_,e,_,_,hc,_⟩:=HO.out.headAt HVl.out (i:=i) hil
      cases e
      have hvm:=HMe.out _ (nth_mem (show i<(orderL s r).length by rw[HVl.out];exact hil))
      obtain⟨k',hk⟩:∃ k,(nth (orderL s r) i).toNat=k:=⟨_,rfl⟩
      have hkV:k' < V:=by omega
      have hki:nth (orderL s r) i=(k':Int):=by omega
      rw[hki] at hc
      obtain⟨gx,e2,hgb,hgn,hcx,hzx⟩:=HS.out.headAt HPt.out.1 hkV
      cases e2
      have hst:=HS.out.put HPt.out.1 k' hkV (i:Int)
      have hps:=HPt.out.step HNo.out HMe.out (by rw[HVl.out];exact hil)
      rw[hk] at hps
      have HST:=Lib.hid hst
      have HPS:=Lib.hid hps
      have HOS:=Lib.hid (HO.out.setCell (a:=⟨gP,k',none⟩) (fun e=>by simp[Value.ownBlock] at e;exact HNe.out e) (.int .i64 (i:Int)))
      have hgP1:=hgb
      have HWS:Hid (WoodOwn R w R4 (wr.setCell ⟨gP,k',none⟩ (.int .i64 (i:Int))) b (.pointer (some ⟨b0,0,none⟩)) (nth (namesL s) r) (nth (namesL s) (at' (phiL s) r)) (nth (namesL s) (at' (phiL s) (at' (phiL s) r))) ao s.length co ad k cd (List.replicate s.length (-1)) D):=Lib.hid ⟨HW.out.ev.setCell (p:=⟨gP,k',none⟩) (Nat.le_trans HWs.out hgb) hgn _,HW.out.lo,HW.out.nb,by rw[Below.heap_setCell _ _ _ _ (fun e=>by have:=HBl.out;have e:b=gP:=e;omega)];exact HW.out.box,HW.out.out.setCell (fun e=>by have:=HLo.out _ e;have:gP=(⟨gP,k',none⟩:Addr).block:=rfl;omega) _,HW.out.ol,HW.out.dar.setCell (fun e=>by have:=HLd.out _ e;have:gP=(⟨gP,k',none⟩:Addr).block:=rfl;omega) _,HW.out.dl,HW.out.d1,HW.out.d2,HW.out.d3⟩
      clear hst hps hki hvm hk hgP1
      go_wp2_with fail
      go_roundg (V-(i+1))
      case measure=>omega
      case rel=>exact⟨i+1,_,by omega,by omega,by go_num,HWS.out,HOS.out,by (first|exact HST.out|simpa using HST.out),HPS.out⟩
     ·obtain rfl:V=i:=by omega
      obtain⟨wd,hwd⟩:∃ wd:World,wd=wr:=⟨_,rfl⟩
      subst hwd
      as_aux_lemma=>
       have hP:=HPt.out
       rw[←HVq.out] at hP
       have HPl:=Lib.hid (hP.pl HT.out HR.out)
       have HRw:Hid (OfRows R4 wd ao w1.heap.size g4 V c4 gP (orderL s r) P):=Lib.hid ⟨HO.out,HS.out,HLt.out⟩
       obtain⟨N,hNe⟩:∃ N,s.length=N:=⟨_,rfl⟩
       have HNq:=Lib.hid hNe
       have HOu:=Lib.hid (OutIs.start HT.out HR.out HPl.out)
       rw[hNe] at HW HOu
       have hc4:V≤c4:=by
        obtain⟨_,_,e,hle,_,_⟩:=HO.out.ints
        cases e
        have:=HVl.out
        omega
       have hc2:¬ c4=2:=by omega
       clear hP HNo HO HS HLt HS14 hNe
       go_wp2_with fail
       obtain⟨M,hM⟩:∃ M,V-2=M:=⟨_,rfl⟩
       rw[hM]
       obtain⟨cc,hcc⟩:∃ M,c4-2=M:=⟨_,rfl⟩
       rw[hcc]
       have HM:=Lib.hid hM
       have hMb:M≤131073:=by omega
       clear hM hcc
       go_loopg [47] M (fun g v47 wq=>∃ (j:Nat) (R7:Reg) (O:List Int),j≤M∧M-j≤g∧v47=.int .i64 (j:Int)∧WoodOwn R w R7 wq b (.pointer (some ⟨b0,0,none⟩)) (nth (namesL s) r) (nth (namesL s) (at' (phiL s) r)) (nth (namesL s) (at' (phiL s) (at' (phiL s) r))) ao N co ad k cd O D∧OfRows R7 wq ao w1.heap.size g4 V c4 gP (orderL s r) P∧OutIs s r (plP P) O (fun y=>lateX s (plP P) y<j+2))
       case atStart=>exact⟨0,R4,_,Nat.zero_le _,by omega,rfl,HW.out,HRw.out,HOu.out⟩
       case round=>
        obtain⟨j,R7,O,hjM,hg7,rfl,hw7,hr7,ho7⟩:=hrel
        as_aux_lemma=>
         have HW7:=Lib.hid hw7
         have HR7:=Lib.hid hr7
         have HO7:=Lib.hid ho7
         clear hw7 hr7 ho7 HW HRw HOu
         by_cases hjl:j<M
         ·have hiV2:j+2<(sizesL s).length:=by rw[HVq.out];have:=HM.out;omega
          obtain⟨_,e,-,-,hc,-⟩:=HR7.out.ord.headAt HVl.out (i:=2+j) (by have:=HM.out;omega)
          cases e
          have hvm:=HMe.out _ (nth_mem (show j+2<(orderL s r).length by rw[HVl.out];have:=HM.out;omega))
          obtain⟨v,hv⟩:∃ v:Nat,nth (orderL s r) (j+2)=(v:Int):=⟨(nth (orderL s r) (j+2)).toNat,by omega⟩
          rw[show nth (orderL s r) (2+j)=(v:Int) by rw[Nat.add_comm 2 j];exact hv] at hc
          obtain⟨u,q,J,hE,hec,hen⟩:=ends_at HT.out HR.out HPl.out (i:=j+2) (by omega) hiV2
          have HEn:=Lib.hid (ends_any R7 wr HW7.out.ev.inv _ s r (HW7.out.ev.map HP.out) HT.out HR.out b HW7.out.wbox ad cd D HW7.out.d5 (by rw[HW7.out.dl];exact HW7.out.dar.free) HDs.out _ V V P HVq.out HR7.out.pla.free HPt.out (j+2) (by omega) (by rw[←HVq.out];exact hiV2) v hv u q J hE hec hen)
          have HEa:=Lib.hid hE
          have hul:=hE.ul
          have hql:=hE.ql
          rw[HNq.out] at hul hql
          have HI2:=Lib.hid hiV2
          clear hvm hE hec hen hv hiV2
          go_wp2_with fail
          refine HEn.out.mono ?_
          rintro e w8 ⟨rfl,R8,he8⟩
          have HW8:=Lib.hid (HW7.out.step he8)
          have HR8:=Lib.hid (HR7.out.ev he8)
          have HPa:=Lib.hid (paint_any HW8.out (HW8.out.ev.map HP.out) HT.out HNq.out u hul 1)
          clear he8 HEn HW7 HR7 hc
          go_wp2_with fail
          refine HPa.out.mono ?_
          rintro e w9 ⟨rfl,R9,he9,hw9⟩
          as_aux_lemma=>
           have HW9:=Lib.hid hw9
           have HR9:=Lib.hid (HR8.out.cell he9)
           have HO9:=Lib.hid (HEa.out.first HT.out HR.out HPl.out HI2.out HO7.out)
           have hSg:=sigma_any R9 w9 hw9.ev.inv _ s (r:Int) 0 (hw9.ev.map HP.out) (u:Int)
           rw[atI_in HEa.out.ul] at hSg
           have HSg:=Lib.hid hSg
           have HI1:=Lib.hid (show at' s u=itf (at' s) 1 u from rfl)
           rw[HI1.out] at HSg
           have hJ0:=HEa.out.J0
           clear he9 hw9 HPa HW8 HR8 HO7 hSg
           go_wp2_with fail
           refine HSg.out.mono ?_
           rintro e w10 ⟨rfl,rfl⟩
           clear HSg
           go_wp2_with fail
           go_loopg [15] J (fun g v15 wp=>∃ (l:Nat) (R10:Reg) (O:List Int),1≤l∧l≤J∧J-l≤g∧v15=.int .i64 ((itf (at' s) l u:Nat):Int)∧WoodOwn R w R10 wp b (.pointer (some ⟨b0,0,none⟩)) (nth (namesL s) r) (nth (namesL s) (at' (phiL s) r)) (nth (namesL s) (at' (phiL s) (at' (phiL s) r))) ao N co ad k cd O D∧OfRows R10 wp ao w1.heap.size g4 V c4 gP (orderL s r) P∧OutIs s r (plP P) O (PartP s (plP P) (j+2) u l))
           case atStart=>exact⟨1,R9,_,by omega,hJ0,by omega,rfl,HW9.out,HR9.out,HO9.out⟩
           case round=>
            obtain⟨l,R10,O10,hl1,hlJ,hg10,rfl,hw10,hr10,ho10⟩:=hrel
            as_aux_lemma=>
             have HW10:=Lib.hid hw10
             have HR10:=Lib.hid hr10
             have HO10:=Lib.hid ho10
             clear hw10 hr10 ho10 HW9 HR9 HO9
             obtain⟨il,-⟩:=it_in HT.out HR.out HPl.out HEa.out.ul l
             by_cases hlt:l<J
             ·have hne:¬ ((itf (at' s) l u:Nat):Int)=(q:Int):=fun e=>HEa.out.one l hlt (by omega)
              have hb:(((itf (at' s) l u:Nat):Int) != (q:Int))=true:=by simpa using hne
              have hN10:=HEa.out.next HT.out HR.out HPl.out HI2.out (by omega) hlt HO10.out
              have hMt:=mate_any R10 wr HW10.out.ev.inv _ s (r:Int) 0 (HW10.out.ev.map HP.out) ((itf (at' s) l u:Nat):Int)
              rw[mateI_in il] at hMt
              have hml:=xor_one_lt HT.out.even il
              have HSg:=Lib.hid (fun R' w' (he:Ev R w R' w')=>by
               have:=sigma_any R' w' he.inv _ s (r:Int) 0 (he.map HP.out) ((itf (at' s) l u:Nat):Int)
               rwa [atI_in il,show at' s (itf (at' s) l u)=itf (at' s) (l+1) u from (itf_succ ..).symm] at this)
              obtain⟨x,hx⟩:∃ x,itf (at' s) l u=x:=⟨_,rfl⟩
              rw[hx] at hne hb hN10 hMt hml HSg ⊢
              obtain⟨y,hy⟩:∃ y,x ^^^ 1=y:=⟨_,rfl⟩
              rw[hy] at hN10 hMt hml
              have HN10:=Lib.hid hN10
              have HMt:=Lib.hid hMt
              have HPa:=Lib.hid (paint_any HW10.out (HW10.out.ev.map HP.out) HT.out HNq.out y (by rw[←HNq.out];exact hml) 0)
              clear hN10 hMt hml hx hy hne il
              go_wp2_with fail
              refine HMt.out.mono ?_
              rintro e w11 ⟨rfl,rfl⟩
              go_wp2_with fail
              refine HPa.out.mono ?_
              rintro e w12 ⟨rfl,R12,he12,hw12⟩
              have HW12:=Lib.hid hw12
              have HR12:=Lib.hid (HR10.out.cell he12)
              have HSg:=Lib.hid (HSg.out _ _ hw12.ev)
              clear he12 hw12 HPa HMt
              go_wp2_with fail
              refine HSg.out.mono ?_
              rintro e w13 ⟨rfl,rfl⟩
              go_wp2_with fail
              go_roundg (J-(l+1))
              case measure=>omega
              case rel=>exact⟨l+1,R12,_,by omega,by omega,by omega,rfl,HW12.out,HR12.out,HN10.out⟩
             ·obtain rfl:J=l:=by omega
              have hq:itf (at' s) J u=q:=HEa.out.uq
              rw[hq]
              have hb:((q:Int) != (q:Int))=false:=by simp
              have HN10:=Lib.hid (HEa.out.done HT.out HR.out HPl.out HI2.out HO10.out)
              have HPa:=Lib.hid (paint_any HW10.out (HW10.out.ev.map HP.out) HT.out HNq.out q hql 2)
              clear hq il
              go_wp2_with fail
              refine HPa.out.mono ?_
              rintro e w12 ⟨rfl,R12,he12,hw12⟩
              have HW12:=Lib.hid hw12
              have HR12:=Lib.hid (HR10.out.cell he12)
              clear he12 hw12 HPa
              go_wp2_with fail
              go_roundg (M-(j+1))
              case measure=>omega
              case rel=>exact⟨j+1,R12,_,by omega,by omega,by go_num,HW12.out,HR12.out,HN10.out⟩
         ·obtain rfl:M=j:=by omega
          have hfin:O=woodR s r:=by
           have e:M+2=(sizesL s).length:=by rw[HVq.out];have:=HM.out;omega
           have k:=HO7.out
           rw[e] at k
           rw[OutIs.all HT.out HR.out HPl.out k,woodR_eq HT.out HR.out HPl.out]
          have HWf:=Lib.hid HW7.out
          rw[hfin] at HWf
          clear hfin
          go_wp2_with fail
          go_ret2
          exact⟨b,R7,D,rfl,HWf.out.ev,HDs.out,HWf.out.at⟩
end
section
open Go.RowKit
set_option linter.unusedVariables false
set_option linter.unusedSimpArgs false
set_option linter.unusedSectionVars false
theorem whas_any (w:World) (b:Nat) (ad:Option Addr) (V cd:Nat) (h5:w.cell? ⟨b,5,none⟩=some (.slice ad V cd)) (v c:Int) (k:Bool) (hk:decide (0≤v∧v<(V:Int)∧0≤c∧c<3)=k):
  Calls Tryz.prog 88 #[.pointer (some ⟨b,0,none⟩),.int .i64 v,.int .i64 c] w fun e w'=>w'=w∧e=.returned (.bool k):=by
 by_cases a1:0≤v
 ·have b1:decide (0≤v)=true:=decide_eq_true a1
  by_cases a2:v<(V:Int)
  ·have b2:decide (v<(V:Int))=true:=decide_eq_true a2
   by_cases a3:0≤c
   ·have b3:decide (0≤c)=true:=decide_eq_true a3
    by_cases a4:c<3
    ·have b4:decide (c<3)=true:=decide_eq_true a4
     have hk:=Lib.hid (show k=true by rw[←hk];exact decide_eq_true ⟨a1,a2,a3,a4⟩)
     go_enter Tryz.func88,Tryz.ntmps88
     go_wp2_with fail
     go_ret
     exact⟨rfl,by rw[hk.out];rfl⟩
    ·have b4:decide (c<3)=false:=decide_eq_false a4
     have hk:=Lib.hid (show k=false by rw[←hk];exact decide_eq_false fun q=>a4 q.2.2.2)
     go_enter Tryz.func88,Tryz.ntmps88
     go_wp2_with fail
     go_ret
     exact⟨rfl,by rw[hk.out];rfl⟩
   ·have b3:decide (0≤c)=false:=decide_eq_false a3
    have hk:=Lib.hid (show k=false by rw[←hk];exact decide_eq_false fun q=>a3 q.2.2.1)
    go_enter Tryz.func88,Tryz.ntmps88
    go_wp2_with fail
    go_ret
    exact⟨rfl,by rw[hk.out];rfl⟩
  ·have b2:decide (v<(V:Int))=false:=decide_eq_false a2
   have hk:=Lib.hid (show k=false by rw[←hk];exact decide_eq_false fun q=>a2 q.2.1)
   go_enter Tryz.func88,Tryz.ntmps88
   go_wp2_with fail
   go_ret
   exact⟨rfl,by rw[hk.out];rfl⟩
 ·have b1:decide (0≤v)=false:=decide_eq_false a1
  have hk:=Lib.hid (show k=false by rw[←hk];exact decide_eq_false fun q=>a1 q.1)
  go_enter Tryz.func88,Tryz.ntmps88
  go_wp2_with fail
  go_ret
  exact⟨rfl,by rw[hk.out];rfl⟩
section
variable (R : Reg) (w : World) (hI : Inv R w) (p : Value) (s : List Nat) (r : Nat) (hp : MapAt R p s (r : Int) 0) (h : TriS s) (b : Nat) (O D : List Int) (hA : WoodAt R w b p s r O D) (hOl : O.length = s.length)
include hI hp h hA hOl
set_option maxRecDepth 100000 in
set_option maxHeartbeats 1000000 in
theorem win_any (x:Nat) (hx:x<s.length):
  Calls Tryz.prog 91 #[.pointer (some ⟨b,0,none⟩),.int .i64 (x:Int)] w (RetV R w (.int .i64 (nth O (x ^^^ 1)))):=by
 have hm:=xor_one_lt h.even hx
 have HMt:=Lib.hid (fun R' w' (he:Ev R w R' w')=>by
  have:=mate_any R' w' he.inv p s (r:Int) 0 (he.map hp) (x:Int)
  rwa [mateI_in hx] at this)
 obtain⟨ao,co,ad,cd,hX,hO,-,-⟩:=hA.reads
 obtain⟨go,oo,rfl,hoc⟩:=hO (x ^^^ 1) (by omega)
 obtain⟨y,hy⟩:∃ y,x ^^^ 1=y:=⟨_,rfl⟩
 rw[hy] at HMt hoc hm ⊢
 obtain⟨z,hz⟩:∃ z,nth O y=z:=⟨_,rfl⟩
 rw[hz] at hoc ⊢
 obtain⟨n,hn⟩:∃ n,O.length=n:=⟨_,rfl⟩
 rw[hn] at hX
 have hyn:y<n:=by omega
 have HX:=Lib.hid (fun R' w' (he:Ev R w R' w')=>(⟨(hX R' w' he).1,(hX R' w' he).2.2.2.2.1,hoc R' w' he⟩:w'.cell? ⟨b,0,none⟩=some p∧w'.cell? ⟨b,4,none⟩=some (.slice (some ⟨go,oo,none⟩) n co)∧w'.cell? ⟨go,oo+y,none⟩=some (.int .i64 z)))
 have HI:=Lib.hid hI
 obtain⟨bp,rfl,-⟩:=hp
 clear hI hX hO hoc hy hz hn hA hm hx h hOl
 have HEd:=Lib.hid (Ev.refl HI.out).drew
 go_enter Tryz.func91,Tryz.ntmps91
 go_wp2_with fail
 refine wp_region_held_drew (S:=fun W=>W.cell? ⟨b,0,none⟩=some (.pointer (some ⟨bp,0,none⟩))∧W.cell? ⟨b,4,none⟩=some (.slice (some ⟨go,oo,none⟩) n co)∧W.cell? ⟨go,oo+y,none⟩=some (.int .i64 z)) (by kernel_rfl) (HX.out _ _ HEd.out) (fun hHeld=>?_)
 refine tk 0 (v:=?ft1) ?gt1 ?_
 case gt1=>(intro w' ⟨s0,s1,s2⟩;go_simp;try with_reducible rfl)
 try simp only[Act.put,rd]
 refine tk 1 (v:=?ft2) ?gt2 ?_
 case gt2=>(intro w' ⟨s0,s1,s2⟩;go_simp;try with_reducible rfl)
 try simp only[Act.put,rd]
 refine tk 2 (v:=?ft3) ?gt3 ?_
 case gt3=>(intro w' ⟨s0,s1,s2⟩;go_simp;try with_reducible rfl)
 try simp only[Act.put,rd]
 refine tk 3 (v:=?ft4) ?gt4 ?_
 case gt4=>(intro w' ⟨s0,s1,s2⟩;go_simp;try with_reducible rfl)
 try simp only[Act.put,rd]
 refine tk 4 (v:=?ft5) ?gt5 ?_
 case gt5=>(intro w' ⟨s0,s1,s2⟩;go_simp;try with_reducible rfl)
 try simp only[Act.put,rd]
 refine tk 5 (v:=?ft6) ?gt6 ?_
 case gt6=>(intro w' ⟨s0,s1,s2⟩;go_simp;try with_reducible rfl)
 try simp only[Act.put,rd]
 refine tk 6 (v:=?ft7) ?gt7 ?_
 case gt7=>(intro w' ⟨s0,s1,s2⟩;go_simp;try with_reducible rfl)
 try simp only[Act.put,rd]
 refine tk 7 (v:=?ft8) ?gt8 ?_
 case gt8=>(intro w' ⟨s0,s1,s2⟩;go_simp;try with_reducible rfl)
 try simp only[Act.put,rd]
 refine tk 8 (v:=?ft9) ?gt9 ?_
 case gt9=>(intro w' ⟨s0,s1,s2⟩;go_simp;try with_reducible rfl)
 try simp only[Act.put,rd]
 refine nx 9 fun K hK=>?_
 go_simp
 refine (HMt.out _ _ HEd.out).mono ?_
 rintro e w3 ⟨rfl,rfl⟩
 go_simp
 refine hK.out _ _ (HX.out _ _ HEd.out) (fun hHeld2=>?_)
 clear hHeld
 refine tk 10 (v:=?ft10) ?gt10 ?_
 case gt10=>(intro w' ⟨s0,s1,s2⟩;go_simp;try with_reducible rfl)
 try simp only[Act.put,rd]
 refine tk 11 (v:=?ft11) ?gt11 ?_
 case gt11=>(intro w' ⟨s0,s1,s2⟩;go_simp;try with_reducible rfl)
 try simp only[Act.put,rd]
 refine tk 12 (v:=?ft12) ?gt12 ?_
 case gt12=>(intro w' ⟨s0,s1,s2⟩;go_simp;try with_reducible rfl)
 try simp only[Act.put,rd]
 refine wpAnyH_done (by kernel_rfl) ?_ _
 go_wp2_with fail
 go_ret
 exact⟨rfl,R,HEd.out⟩
variable (hDs : DartsOf s D)
include hDs
def ParIs (s:List Nat) (O:List Int) (v:Nat) (c x:Int):Prop:=(∃ d,d<s.length∧vtx s d=v∧nth O d=c∧x=nth (namesL s) (d ^^^ 1))∨((∀ d,d<s.length→vtx s d=v→nth O d≠c)∧x=-1)
def RetPar (R:Reg) (w:World) (s:List Nat) (O:List Int) (v:Nat) (c:Int) (e:Ending) (w':World):Prop:=∃ x R',e=.returned (.int .i64 x)∧ParIs s O v c x∧Ev R w R' w'
set_option maxRecDepth 100000 in
set_option maxHeartbeats 3000000 in
theorem wparent_any (v:Nat) (hv:v<(sizesL s).length) (c:Int) (hc0:0≤c) (hc3:c<3):
  Calls Tryz.prog 31 #[.pointer (some ⟨b,0,none⟩),.int .i64 (v:Int),.int .i64 c] w (RetPar R w s O v c):=by
 obtain⟨d0,hd0,hd0l,hd0v⟩:=hDs.2 v (by rw[hDs.1];exact hv)
 have HMt:=Lib.hid (fun R' w' (he:Ev R w R' w') (x:Nat) (hx:x<s.length)=>by
  have:=mate_any R' w' he.inv p s (r:Int) 0 (he.map hp) (x:Int)
  rwa [mateI_in hx] at this)
 have HVx:=Lib.hid (fun R' w' (he:Ev R w R' w') (x:Nat) (hx:x<s.length)=>by
  have:=vertex_any R' w' he.inv p s (r:Int) 0 (he.map hp) (x:Int)
  rwa [nameI_in hx] at this)
 have HAr:=Lib.hid (fun R' w' (he:Ev R w R' w')=>by
  have:=around_any R' w' he.inv p s (r:Int) 0 (he.map hp) (d0:Int)
  rwa [orbI_in hd0l] at this)
 obtain⟨ao,co,ad,cd,hX,hO,hDc,-⟩:=hA.reads
 obtain⟨gd,od,rfl,hdc⟩:=hDc v (by rw[hDs.1];exact hv)
 obtain⟨go,oo,rfl,-⟩:=hO d0 (by omega)
 rw[hd0] at hdc
 obtain⟨n,hn⟩:∃ n,O.length=n:=⟨_,rfl⟩
 obtain⟨V,hV⟩:∃ n,D.length=n:=⟨_,rfl⟩
 have hvV:v<V:=by rw[←hV,hDs.1];exact hv
 rw[hn,hV] at hX
 have hOc:∀ y,y<n→∀ R' w',Ev R w R' w'→w'.cell? ⟨go,oo+y,none⟩=some (.int .i64 (nth O y)):=fun y hy=>by
  obtain⟨_,_,e,k⟩:=hO y (by omega)
  cases e
  exact k
 have HHa:=Lib.hid (whas_any w b _ V cd (hX R w (Ev.refl hI)).2.2.2.2.2 (v:Int) c true (decide_eq_true ⟨by omega,by omega,hc0,hc3⟩))
 have HX:=Lib.hid (fun R' w' (he:Ev R w R' w')=>(⟨(hX R' w' he).1,(hX R' w' he).2.2.2.2.1,(hX R' w' he).2.2.2.2.2,hdc R' w' he⟩:w'.cell? ⟨b,0,none⟩=some p∧w'.cell? ⟨b,4,none⟩=some (.slice (some ⟨go,oo,none⟩) n co)∧w'.cell? ⟨b,5,none⟩=some (.slice (some ⟨gd,od,none⟩) V cd)∧w'.cell? ⟨gd,od+v,none⟩=some (.int .i64 (d0:Int))))
 have HOc:=Lib.hid hOc
 have HI:=Lib.hid hI
 have HT:=Lib.hid h
 obtain⟨T,hT⟩:∃ T,orbitL s d0=T:=⟨_,rfl⟩
 have hTm:∀ d,d∈T↔d<s.length∧vtx s d=v:=fun d=>by
  rw[←hT,names_orbit h.perm hd0l]
  constructor
  ·rintro⟨k1,k2⟩
   rw[vtx_eq h.perm k1,vtx_eq h.perm hd0l,hd0v] at k2
   exact⟨k1,by omega⟩
  ·rintro⟨k1,k2⟩
   exact⟨k1,by rw[vtx_eq h.perm k1,vtx_eq h.perm hd0l,hd0v,k2]⟩
 rw[hT] at HAr
 have hTn:T.length≤s.length+1:=by rw[←hT];exact orbitL_length s d0
 have hok:=(hp.ok hI).2.2.1
 obtain⟨m,hm⟩:∃ m,T.length=m:=⟨_,rfl⟩
 have HTl:=Lib.hid (show (toI T).length=m by rw[toI_length,hm])
 have hTe:∀ i,i<m→∃ d:Nat,nth (toI T) i=(d:Int)∧d∈T∧T[i]?=some d:=fun i hi=>⟨T[i]'(by omega),by simp[nth,toI,show i<T.length by omega],List.getElem_mem _,by rw[List.getElem?_eq_getElem (by omega)]⟩
 have HTe:=Lib.hid hTe
 have HTm:=Lib.hid hTm
 have HTx:=Lib.hid (fun d (hd:d∈T)=>(by
  obtain⟨i,hi,e⟩:=List.getElem_of_mem hd
  exact⟨i,by omega,by rw[List.getElem?_eq_getElem hi,e]⟩:∃ i,i<m∧T[i]?=some d))
 have HOl:=Lib.hid (show s.length=n by omega)
 have hmn:m≤131074:=by omega
 obtain⟨bp,rfl,-⟩:=hp
 clear hI hX hO hOc hDc hdc hA hn hV hT hTm hTn hTe hm h hDs hd0 hd0l hd0v hOl hv hok
 go_enter Tryz.func31,Tryz.ntmps31
 go_wp2_with fail
 refine HHa.out.mono ?_
 rintro e w1 ⟨rfl,rfl⟩
 clear HHa
 go_wp2_with fail
 go_cut [25,26,27] (fun s25 s26 s27 wx=>∃ (wn:World) (a5:Option Addr) (c5:Nat),wn=wx∧s25=.slice a5 m c5∧s26=.int .i64 (m:Int)∧s27=.int .i64 0∧Ev R w1 R wn∧OwnI R w1.heap.size 3 wn (.slice a5 m c5) (toI T))
 case first=>
  have HEd:=Lib.hid (Ev.refl HI.out).drew
  obtain⟨x0,x1,x2,x3⟩:=HX.out _ _ HEd.out
  refine wp_region_held_drew (S:=fun W=>W.cell? ⟨b,0,none⟩=some (.pointer (some ⟨bp,0,none⟩))∧W.cell? ⟨b,5,none⟩=some (.slice (some ⟨gd,od,none⟩) V cd)∧W.cell? ⟨gd,od+v,none⟩=some (.int .i64 (d0:Int))) (by kernel_rfl) ⟨x0,x2,x3⟩ (fun hHeld=>?_)
  refine tk 0 (v:=?ft13) ?gt13 ?_
  case gt13=>(intro w' ⟨s0,s1,s2⟩;go_simp;try with_reducible rfl)
  try simp only[Act.put,rd]
  refine tk 1 (v:=?ft14) ?gt14 ?_
  case gt14=>(intro w' ⟨s0,s1,s2⟩;go_simp;try with_reducible rfl)
  try simp only[Act.put,rd]
  refine tk 2 (v:=?ft15) ?gt15 ?_
  case gt15=>(intro w' ⟨s0,s1,s2⟩;go_simp;try with_reducible rfl)
  try simp only[Act.put,rd]
  refine tk 3 (v:=?ft16) ?gt16 ?_
  case gt16=>(intro w' ⟨s0,s1,s2⟩;go_simp;try with_reducible rfl)
  try simp only[Act.put,rd]
  refine tk 4 (v:=?ft17) ?gt17 ?_
  case gt17=>(intro w' ⟨s0,s1,s2⟩;go_simp;try with_reducible rfl)
  try simp only[Act.put,rd]
  refine tk 5 (v:=?ft18) ?gt18 ?_
  case gt18=>(intro w' ⟨s0,s1,s2⟩;go_simp;try with_reducible rfl)
  try simp only[Act.put,rd]
  refine tk 6 (v:=?ft19) ?gt19 ?_
  case gt19=>(intro w' ⟨s0,s1,s2⟩;go_simp;try with_reducible rfl)
  try simp only[Act.put,rd]
  refine tk 7 (v:=?ft20) ?gt20 ?_
  case gt20=>(intro w' ⟨s0,s1,s2⟩;go_simp;try with_reducible rfl)
  try simp only[Act.put,rd]
  refine tk 8 (v:=?ft21) ?gt21 ?_
  case gt21=>(intro w' ⟨s0,s1,s2⟩;go_simp;try with_reducible rfl)
  try simp only[Act.put,rd]
  refine tk 9 (v:=?ft22) ?gt22 ?_
  case gt22=>(intro w' ⟨s0,s1,s2⟩;go_simp;try with_reducible rfl)
  try simp only[Act.put,rd]
  refine tk 10 (v:=?ft23) ?gt23 ?_
  case gt23=>(intro w' ⟨s0,s1,s2⟩;go_simp;try with_reducible rfl)
  try simp only[Act.put,rd]
  refine tk 13 (v:=?ft24) ?gt24 ?_
  case gt24=>(intro w' ⟨s0,s1,s2⟩;go_simp;try with_reducible rfl)
  try simp only[Act.put,rd]
  refine nx 11 fun K hK=>?_
  go_simp
  refine (HAr.out _ _ HEd.out).mono ?_
  rintro e w3 ⟨v3,rfl,he3,ho3⟩
  obtain⟨a3,c3,rfl,-⟩:=ho3.ints.open
  rw[HTl.out] at ho3 ⊢
  have HE3:=Lib.hid (HEd.out.trans he3)
  have HO3:=Lib.hid (ho3.mono HEd.out.size)
  clear he3 ho3
  go_simp
  obtain⟨y0,y1,y2,y3⟩:=HX.out _ _ HE3.out
  refine hK.out _ _ ⟨y0,y2,y3⟩ (fun hHeld2=>?_)
  clear hHeld
  refine tk 12 (v:=(.int .i64 (m:Int))) ?gt25 ?_
  case gt25=>(intro w' ⟨s0,s1,s2⟩;go_simp;try with_reducible rfl)
  try simp only[Act.put,rd]
  refine wpAnyH_done (by kernel_rfl) ?_ _
  go_wp2_with fail
  go_meet
  exact⟨_,a3,c3,rfl,rfl,rfl,rfl,HE3.out,HO3.out⟩
 case rest=>
  obtain⟨wx,a5,c5,rfl,rfl,rfl,rfl,he5,ho5⟩:=hcut
  have HE5:=Lib.hid he5
  have HO5:=Lib.hid ho5
  clear he5 ho5 HAr
  go_wp2_with fail
  go_loopg [27] m (fun g v27 wq=>∃ (i:Nat) (R6:Reg),i≤m∧m-i≤g∧v27=.int .i64 (i:Int)∧Ev R w1 R6 wq∧OwnI R6 w1.heap.size 3 wq (.slice a5 m c5) (toI T)∧∀ (j d:Nat),j<i→T[j]?=some d→nth O d≠c)
  case atStart=>exact⟨0,R,Nat.zero_le _,by omega,rfl,HE5.out,HO5.out,fun j d hj=>absurd hj (Nat.not_lt_zero _)⟩
  case round=>
   obtain⟨i,R6,him,hg,rfl,he6,ho6,hal⟩:=hrel
   as_aux_lemma=>
    have HE6:=Lib.hid he6
    have HO6:=Lib.hid ho6
    have HAl:=Lib.hid hal
    clear he6 ho6 hal HE5 HO5
    by_cases hil:i<m
    ·obtain⟨g5,rfl,-,-,z,-⟩:=HO6.out.headAt HTl.out (i:=i) hil
     obtain⟨d,hd,hdT,hdi⟩:=HTe.out i hil
     rw[hd] at z
     obtain⟨dl,dv⟩:=(HTm.out d).1 hdT
     have hdn:d<n:=by rw[←HOl.out];exact dl
     have hm2:=xor_one_lt HT.out.even dl
     have zo:=HOc.out d hdn _ _ HE6.out
     obtain⟨x0,x1,x2,x3⟩:=HX.out _ _ HE6.out
     obtain⟨od',hod⟩:∃ x,nth O d=x:=⟨_,rfl⟩
     rw[hod] at zo
     have HOd:=Lib.hid hod
     have HDv:=Lib.hid dv
     have HDl:=Lib.hid dl
     have HDi:=Lib.hid hdi
     clear hd hdT hdi dv hod
     by_cases hcc:od'=c
     ·have hb:(od' == c)=true:=beq_iff_eq.2 hcc
      have HCc:=Lib.hid hcc
      clear hcc
      go_wp2_with fail
      have HEd:=Lib.hid HE6.out.drew
      have HM1:=Lib.hid (HMt.out _ _ HEd.out d dl)
      have HV1:=Lib.hid (HVx.out _ _ HEd.out (d ^^^ 1) hm2)
      have y0:=(HX.out _ _ HEd.out).1
      obtain⟨y,hy⟩:∃ y,d ^^^ 1=y:=⟨_,rfl⟩
      rw[hy] at HM1 HV1
      obtain⟨nv,hnv⟩:∃ x,nth (namesL s) y=x:=⟨_,rfl⟩
      rw[hnv] at HV1
      have HY:=Lib.hid (show nv=nth (namesL s) (d ^^^ 1) by rw[hy,hnv])
      clear hy hnv hm2 x0 x1 x2 x3 zo z
      refine wp_region_held_drew (S:=fun W=>W.cell? ⟨b,0,none⟩=some (.pointer (some ⟨bp,0,none⟩))) (by kernel_rfl) y0 (fun hHeld=>?_)
      refine tk 0 (v:=?ft26) ?gt26 ?_
      case gt26=>(intro w' s0;go_simp;try with_reducible rfl)
      try simp only[Act.put,rd]
      refine tk 1 (v:=?ft27) ?gt27 ?_
      case gt27=>(intro w' s0;go_simp;try with_reducible rfl)
      try simp only[Act.put,rd]
      refine tk 2 (v:=?ft28) ?gt28 ?_
      case gt28=>(intro w' s0;go_simp;try with_reducible rfl)
      try simp only[Act.put,rd]
      refine tk 3 (v:=?ft29) ?gt29 ?_
      case gt29=>(intro w' s0;go_simp;try with_reducible rfl)
      try simp only[Act.put,rd]
      refine tk 4 (v:=?ft30) ?gt30 ?_
      case gt30=>(intro w' s0;go_simp;try with_reducible rfl)
      try simp only[Act.put,rd]
      refine tk 5 (v:=?ft31) ?gt31 ?_
      case gt31=>(intro w' s0;go_simp;try with_reducible rfl)
      try simp only[Act.put,rd]
      refine tk 6 (v:=?ft32) ?gt32 ?_
      case gt32=>(intro w' s0;go_simp;try with_reducible rfl)
      try simp only[Act.put,rd]
      refine tk 7 (v:=?ft33) ?gt33 ?_
      case gt33=>(intro w' s0;go_simp;try with_reducible rfl)
      try simp only[Act.put,rd]
      refine tk 8 (v:=?ft34) ?gt34 ?_
      case gt34=>(intro w' s0;go_simp;try with_reducible rfl)
      try simp only[Act.put,rd]
      refine nx 9 fun K hK=>?_
      go_simp
      refine HM1.out.mono ?_
      rintro e w7 ⟨rfl,rfl⟩
      go_simp
      refine hK.out _ _ y0 (fun hHeld2=>?_)
      clear hHeld
      refine nx 10 fun K hK=>?_
      go_simp
      refine HV1.out.mono ?_
      rintro e w8 ⟨rfl,R8,he8⟩
      have HE8:=Lib.hid (HEd.out.trans he8)
      clear he8
      go_simp
      refine hK.out _ _ (HX.out _ _ HE8.out).1 (fun hHeld3=>?_)
      clear hHeld2
      refine tk 11 (v:=?ft35) ?gt35 ?_
      case gt35=>(intro w' s0;go_simp;try with_reducible rfl)
      try simp only[Act.put,rd]
      refine wpAnyH_done (by kernel_rfl) ?_ _
      go_wp2_with fail
      go_ret
      exact⟨nv,R8,rfl,.inl ⟨d,HDl.out,HDv.out,HOd.out.trans HCc.out,HY.out⟩,HE8.out⟩
     ·have hb:(od' == c)=false:=beq_eq_false_iff_ne.2 hcc
      have HCc:=Lib.hid hcc
      clear hcc
      go_wp2_with fail
      go_roundg (m-(i+1))
      case measure=>omega
      case rel=>exact⟨i+1,R6,by omega,by omega,by go_num,HE6.out,HO6.out,fun j x hj e=>by
       rcases (by omega:j<i∨j=i) with q|q
       ·exact HAl.out j x q e
       ·subst q
        rw[HDi.out] at e
        cases e
        rw[HOd.out]
        exact HCc.out⟩
    ·obtain rfl:m=i:=by omega
     have HNo:Hid (∀ d,d<s.length→vtx s d=v→nth O d≠c):=Lib.hid fun d hd he=>by
      obtain⟨j,hj,e⟩:=HTx.out d ((HTm.out d).2 ⟨hd,he⟩)
      exact HAl.out j d hj e
     go_wp2_with fail
     go_ret
     exact⟨-1,R6,rfl,.inr ⟨HNo.out,rfl⟩,HE6.out⟩
end
end
section
open Go.RowKit
set_option linter.unusedVariables false
set_option linter.unusedSimpArgs false
set_option linter.unusedSectionVars false
def chTo (s:List Nat) (O:List Int) (c:Int) (T:List Int) (i:Nat):List Int:=((T.take i).filter fun d=>nth O (d.toNat ^^^ 1) == c).map fun d=>nth (namesL s) (d.toNat ^^^ 1)
theorem chTo_step (s:List Nat) (O:List Int) (c:Int) (T:List Int) (i:Nat) (hi:i<T.length):(nth O ((nth T i).toNat ^^^ 1)=c→chTo s O c T (i+1)=chTo s O c T i ++ [nth (namesL s) ((nth T i).toNat ^^^ 1)])∧(nth O ((nth T i).toNat ^^^ 1)≠c→chTo s O c T (i+1)=chTo s O c T i):=by
 have e:nth T i=T[i]:=nth_at hi
 unfold chTo
 rw[List.take_succ_eq_append_getElem hi,List.filter_append,List.map_append,e]
 constructor
 ·intro k
  rw[List.filter_cons_of_pos (by simpa using k)]
  rfl
 ·intro k
  rw[List.filter_cons_of_neg (by simpa using k)]
  simp
def RetChl (R:Reg) (w:World) (s:List Nat) (O:List Int) (v:Nat) (c:Int) (e:Ending) (w':World):Prop:=∃ v' R' d0,e=.returned v'∧d0<s.length∧vtx s d0=v∧Ev R w R' w'∧OwnI R' w.heap.size 3 w' v' (((toI (orbitL s d0)).filter fun d=>nth O (d.toNat ^^^ 1) == c).map fun d=>nth (namesL s) (d.toNat ^^^ 1))
section
variable (R : Reg) (w : World) (hI : Inv R w) (p : Value) (s : List Nat) (r : Nat) (hp : MapAt R p s (r : Int) 0) (h : TriS s) (b : Nat) (O D : List Int) (hA : WoodAt R w b p s r O D) (hOl : O.length = s.length)
variable (hDs : DartsOf s D)
include hI hp h hA hOl hDs
set_option maxRecDepth 100000 in
set_option maxHeartbeats 3000000 in
theorem wchildren_any (v:Nat) (hv:v<(sizesL s).length) (c:Int) (hc0:0≤c) (hc3:c<3):
  Calls Tryz.prog 30 #[.pointer (some ⟨b,0,none⟩),.int .i64 (v:Int),.int .i64 c] w (RetChl R w s O v c):=by
 obtain⟨d0,hd0,hd0l,hd0v⟩:=hDs.2 v (by rw[hDs.1];exact hv)
 have HMt:=Lib.hid (fun R' w' (he:Ev R w R' w') (x:Nat) (hx:x<s.length)=>by
  have:=mate_any R' w' he.inv p s (r:Int) 0 (he.map hp) (x:Int)
  rwa [mateI_in hx] at this)
 have HVx:=Lib.hid (fun R' w' (he:Ev R w R' w') (x:Nat) (hx:x<s.length)=>by
  have:=vertex_any R' w' he.inv p s (r:Int) 0 (he.map hp) (x:Int)
  rwa [nameI_in hx] at this)
 have HAr:=Lib.hid (fun R' w' (he:Ev R w R' w')=>by
  have:=around_any R' w' he.inv p s (r:Int) 0 (he.map hp) (d0:Int)
  rwa [orbI_in hd0l] at this)
 obtain⟨ao,co,ad,cd,hX,hO,hDc,-⟩:=hA.reads
 obtain⟨gd,od,rfl,hdc⟩:=hDc v (by rw[hDs.1];exact hv)
 obtain⟨go,oo,rfl,-⟩:=hO d0 (by omega)
 rw[hd0] at hdc
 obtain⟨n,hn⟩:∃ n,O.length=n:=⟨_,rfl⟩
 obtain⟨V,hV⟩:∃ n,D.length=n:=⟨_,rfl⟩
 have hvV:v<V:=by rw[←hV,hDs.1];exact hv
 rw[hn,hV] at hX
 have hOc:∀ y,y<n→∀ R' w',Ev R w R' w'→w'.cell? ⟨go,oo+y,none⟩=some (.int .i64 (nth O y)):=fun y hy=>by
  obtain⟨_,_,e,k⟩:=hO y (by omega)
  cases e
  exact k
 have HIn:=Lib.hid (fun R' w' (he:Ev R w R' w') (x:Nat) (hx:x<s.length)=>win_any R' w' he.inv p s r (he.map hp) h b O D (hA.ev he) hOl x hx)
 have HHa:=Lib.hid (whas_any w b _ V cd (hX R w (Ev.refl hI)).2.2.2.2.2 (v:Int) c true (decide_eq_true ⟨by omega,by omega,hc0,hc3⟩))
 have HX:=Lib.hid (fun R' w' (he:Ev R w R' w')=>(⟨(hX R' w' he).1,(hX R' w' he).2.2.2.2.1,(hX R' w' he).2.2.2.2.2,hdc R' w' he⟩:w'.cell? ⟨b,0,none⟩=some p∧w'.cell? ⟨b,4,none⟩=some (.slice (some ⟨go,oo,none⟩) n co)∧w'.cell? ⟨b,5,none⟩=some (.slice (some ⟨gd,od,none⟩) V cd)∧w'.cell? ⟨gd,od+v,none⟩=some (.int .i64 (d0:Int))))
 have HOc:=Lib.hid hOc
 have HI:=Lib.hid hI
 have HT:=Lib.hid h
 obtain⟨T,hT⟩:∃ T,orbitL s d0=T:=⟨_,rfl⟩
 have hTm:∀ d,d∈T↔d<s.length∧vtx s d=v:=fun d=>by
  rw[←hT,names_orbit h.perm hd0l]
  constructor
  ·rintro⟨k1,k2⟩
   rw[vtx_eq h.perm k1,vtx_eq h.perm hd0l,hd0v] at k2
   exact⟨k1,by omega⟩
  ·rintro⟨k1,k2⟩
   exact⟨k1,by rw[vtx_eq h.perm k1,vtx_eq h.perm hd0l,hd0v,k2]⟩
 rw[hT] at HAr
 have hTn:T.length≤s.length+1:=by rw[←hT];exact orbitL_length s d0
 have hok:=(hp.ok hI).2.2.1
 obtain⟨m,hm⟩:∃ m,T.length=m:=⟨_,rfl⟩
 have HTl:=Lib.hid (show (toI T).length=m by rw[toI_length,hm])
 have hTe:∀ i,i<m→∃ d:Nat,nth (toI T) i=(d:Int)∧d∈T∧T[i]?=some d:=fun i hi=>⟨T[i]'(by omega),by simp[nth,toI,show i<T.length by omega],List.getElem_mem _,by rw[List.getElem?_eq_getElem (by omega)]⟩
 have HTe:=Lib.hid hTe
 have HTm:=Lib.hid hTm
 have HTx:=Lib.hid (fun d (hd:d∈T)=>(by
  obtain⟨i,hi,e⟩:=List.getElem_of_mem hd
  exact⟨i,by omega,by rw[List.getElem?_eq_getElem hi,e]⟩:∃ i,i<m∧T[i]?=some d))
 have HRes:Hid (∀ R' w' (v':Value),Ev R w R' w'→OwnI R' w.heap.size 3 w' v' (chTo s O c (toI T) m)→RetChl R w s O v c (.returned v') w'):=Lib.hid (fun R' w' v' he ho=>⟨v',R',d0,rfl,hd0l,hd0v,he,by rw[hT];unfold chTo at ho;rw[List.take_of_length_le (by rw[toI_length];omega)] at ho;exact ho⟩)
 have HOl:=Lib.hid (show s.length=n by omega)
 have hmn:m≤131074:=by omega
 obtain⟨bp,rfl,-⟩:=hp
 clear hI hX hO hOc hDc hdc hA hn hV hT hTm hTn hTe hm h hDs hd0 hd0l hd0v hOl hv hok
 go_enter Tryz.func30,Tryz.ntmps30
 go_wp2_with fail
 refine HHa.out.mono ?_
 rintro e w1 ⟨rfl,rfl⟩
 clear HHa
 go_wp2_with fail
 go_cut [26,27,28] (fun s26 s27 s28 wx=>∃ (wn:World) (a5:Option Addr) (c5:Nat),wn=wx∧s26=.slice a5 m c5∧s27=.int .i64 (m:Int)∧s28=.int .i64 0∧Ev R w1 R wn∧OwnI R w1.heap.size 3 wn (.slice a5 m c5) (toI T))
 case first=>
  have HEd:=Lib.hid (Ev.refl HI.out).drew
  obtain⟨x0,x1,x2,x3⟩:=HX.out _ _ HEd.out
  refine wp_region_held_drew (S:=fun W=>W.cell? ⟨b,0,none⟩=some (.pointer (some ⟨bp,0,none⟩))∧W.cell? ⟨b,5,none⟩=some (.slice (some ⟨gd,od,none⟩) V cd)∧W.cell? ⟨gd,od+v,none⟩=some (.int .i64 (d0:Int))) (by kernel_rfl) ⟨x0,x2,x3⟩ (fun hHeld=>?_)
  refine tk 0 (v:=?ft1) ?gt1 ?_
  case gt1=>(intro w' ⟨s0,s1,s2⟩;go_simp;try with_reducible rfl)
  try simp only[Act.put,rd]
  refine tk 1 (v:=?ft2) ?gt2 ?_
  case gt2=>(intro w' ⟨s0,s1,s2⟩;go_simp;try with_reducible rfl)
  try simp only[Act.put,rd]
  refine tk 2 (v:=?ft3) ?gt3 ?_
  case gt3=>(intro w' ⟨s0,s1,s2⟩;go_simp;try with_reducible rfl)
  try simp only[Act.put,rd]
  refine tk 3 (v:=?ft4) ?gt4 ?_
  case gt4=>(intro w' ⟨s0,s1,s2⟩;go_simp;try with_reducible rfl)
  try simp only[Act.put,rd]
  refine tk 4 (v:=?ft5) ?gt5 ?_
  case gt5=>(intro w' ⟨s0,s1,s2⟩;go_simp;try with_reducible rfl)
  try simp only[Act.put,rd]
  refine tk 5 (v:=?ft6) ?gt6 ?_
  case gt6=>(intro w' ⟨s0,s1,s2⟩;go_simp;try with_reducible rfl)
  try simp only[Act.put,rd]
  refine tk 6 (v:=?ft7) ?gt7 ?_
  case gt7=>(intro w' ⟨s0,s1,s2⟩;go_simp;try with_reducible rfl)
  try simp only[Act.put,rd]
  refine tk 7 (v:=?ft8) ?gt8 ?_
  case gt8=>(intro w' ⟨s0,s1,s2⟩;go_simp;try with_reducible rfl)
  try simp only[Act.put,rd]
  refine tk 8 (v:=?ft9) ?gt9 ?_
  case gt9=>(intro w' ⟨s0,s1,s2⟩;go_simp;try with_reducible rfl)
  try simp only[Act.put,rd]
  refine tk 9 (v:=?ft10) ?gt10 ?_
  case gt10=>(intro w' ⟨s0,s1,s2⟩;go_simp;try with_reducible rfl)
  try simp only[Act.put,rd]
  refine tk 10 (v:=?ft11) ?gt11 ?_
  case gt11=>(intro w' ⟨s0,s1,s2⟩;go_simp;try with_reducible rfl)
  try simp only[Act.put,rd]
  refine tk 13 (v:=?ft12) ?gt12 ?_
  case gt12=>(intro w' ⟨s0,s1,s2⟩;go_simp;try with_reducible rfl)
  try simp only[Act.put,rd]
  refine nx 11 fun K hK=>?_
  go_simp
  refine (HAr.out _ _ HEd.out).mono ?_
  rintro e w3 ⟨v3,rfl,he3,ho3⟩
  obtain⟨a3,c3,rfl,-⟩:=ho3.ints.open
  rw[HTl.out] at ho3 ⊢
  have HE3:=Lib.hid (HEd.out.trans he3)
  have HO3:=Lib.hid (ho3.mono HEd.out.size)
  clear he3 ho3
  go_simp
  obtain⟨y0,y1,y2,y3⟩:=HX.out _ _ HE3.out
  refine hK.out _ _ ⟨y0,y2,y3⟩ (fun hHeld2=>?_)
  clear hHeld
  refine tk 12 (v:=(.int .i64 (m:Int))) ?gt13 ?_
  case gt13=>(intro w' ⟨s0,s1,s2⟩;go_simp;try with_reducible rfl)
  try simp only[Act.put,rd]
  refine wpAnyH_done (by kernel_rfl) ?_ _
  go_wp2_with fail
  go_meet
  exact⟨_,a3,c3,rfl,rfl,rfl,rfl,HE3.out,HO3.out⟩
 case rest=>
  obtain⟨wx,a5,c5,rfl,rfl,rfl,rfl,he5,ho5⟩:=hcut
  have HE5:=Lib.hid he5
  have HO5:=Lib.hid ho5
  have HL5:=Lib.hid (fun k hk=>(ho5.lt k hk).2)
  have HSy:=Lib.hid he5.size
  clear he5 ho5 HAr
  go_wp2_with fail
  go_loopg [7,28] m (fun g v7 v28 wq=>∃ (i:Nat) (R6:Reg) (a7:Option Addr) (n7 c7:Nat),i≤m∧m-i≤g∧v28=.int .i64 (i:Int)∧v7=.slice a7 n7 c7∧n7=(chTo s O c (toI T) i).length∧n7≤i∧wx.heap.size≤wq.heap.size∧Ev R w1 R6 wq∧OwnI R6 w1.heap.size 3 wq (.slice a5 m c5) (toI T)∧OwnI R6 wx.heap.size 3 wq (.slice a7 n7 c7) (chTo s O c (toI T) i))
  case atStart=>exact⟨0,R,none,0,0,Nat.zero_le _,by omega,rfl,rfl,rfl,by omega,Nat.le_refl _,HE5.out,HO5.out,by rw[show chTo s O c (toI T) 0=[] from rfl];exact OwnI.nil _ _ _ _⟩
  case round=>
   obtain⟨i,R6,a7,n7,c7,him,hg,rfl,rfl,hn7,hn7i,hz6,he6,ho6,ho7⟩:=hrel
   as_aux_lemma=>
    have HE6:=Lib.hid he6
    have HO6:=Lib.hid ho6
    have HO7:=Lib.hid ho7
    have HN7:=Lib.hid hn7
    clear he6 ho6 ho7 HE5 HO5 hn7
    by_cases hil:i<m
    ·obtain⟨g5,rfl,-,-,z,-⟩:=HO6.out.headAt HTl.out (i:=i) hil
     obtain⟨d,hd,hdT,hdi⟩:=HTe.out i hil
     have hst:=chTo_step s O c (toI T) i (by rw[HTl.out];exact hil)
     rw[hd] at z hst
     rw[show ((d:Nat):Int).toNat=d from rfl] at hst
     obtain⟨dl,dv⟩:=(HTm.out d).1 hdT
     have hm2:=xor_one_lt HT.out.even dl
     have HI1:=Lib.hid (HIn.out _ _ HE6.out d dl)
     obtain⟨y,hy⟩:∃ y,d ^^^ 1=y:=⟨_,rfl⟩
     have hMt:=fun R' w' (he:Ev R w1 R' w')=>HMt.out R' w' he d dl
     have hVx:=fun R' w' (he:Ev R w1 R' w')=>HVx.out R' w' he (d ^^^ 1) hm2
     rw[hy] at HI1 hst
     simp only[hy] at hMt hVx
     obtain⟨oy,hoy⟩:∃ x,nth O y=x:=⟨_,rfl⟩
     obtain⟨nv,hnv⟩:∃ x,nth (namesL s) y=x:=⟨_,rfl⟩
     rw[hoy] at HI1 hst
     simp only[hnv] at hVx hst
     have HMt1:=Lib.hid hMt
     have HVx1:=Lib.hid hVx
     have HSt:=Lib.hid hst
     clear hst hMt hVx hoy hnv hy hm2 hd hdT hdi dv dl
     go_wp2_with fail
     refine HI1.out.mono ?_
     rintro e w7 ⟨rfl,R7,he7⟩
     have HE7:=Lib.hid (HE6.out.trans he7)
     have HO6:=Lib.hid (HO6.out.ev he7)
     have HO7:=Lib.hid (HO7.out.ev he7)
     have hz7:wx.heap.size≤w7.heap.size:=Nat.le_trans hz6 he7.size
     clear he7 HE6 HI1 hz6
     by_cases hcc:oy=c
     ·have hb:(oy == c)=true:=beq_iff_eq.2 hcc
      have HS2:=Lib.hid (HSt.out.1 hcc)
      clear hcc HSt
      go_wp2_with fail
      have HEd:=Lib.hid HE7.out.drew
      have HM1:=Lib.hid (HMt1.out _ _ HEd.out)
      have HV1:=Lib.hid (HVx1.out _ _ HEd.out)
      have y0:=(HX.out _ _ HEd.out).1
      refine wp_region_held_drew (S:=fun W=>W.cell? ⟨b,0,none⟩=some (.pointer (some ⟨bp,0,none⟩))) (by kernel_rfl) y0 (fun hHeld=>?_)
      refine tk 0 (v:=?ft14) ?gt14 ?_
      case gt14=>(intro w' s0;go_simp;try with_reducible rfl)
      try simp only[Act.put,rd]
      refine tk 1 (v:=?ft15) ?gt15 ?_
      case gt15=>(intro w' s0;go_simp;try with_reducible rfl)
      try simp only[Act.put,rd]
      refine tk 2 (v:=?ft16) ?gt16 ?_
      case gt16=>(intro w' s0;go_simp;try with_reducible rfl)
      try simp only[Act.put,rd]
      refine tk 3 (v:=?ft17) ?gt17 ?_
      case gt17=>(intro w' s0;go_simp;try with_reducible rfl)
      try simp only[Act.put,rd]
      refine tk 4 (v:=?ft18) ?gt18 ?_
      case gt18=>(intro w' s0;go_simp;try with_reducible rfl)
      try simp only[Act.put,rd]
      refine tk 5 (v:=?ft19) ?gt19 ?_
      case gt19=>(intro w' s0;go_simp;try with_reducible rfl)
      try simp only[Act.put,rd]
      refine tk 6 (v:=?ft20) ?gt20 ?_
      case gt20=>(intro w' s0;go_simp;try with_reducible rfl)
      try simp only[Act.put,rd]
      refine tk 7 (v:=?ft21) ?gt21 ?_
      case gt21=>(intro w' s0;go_simp;try with_reducible rfl)
      try simp only[Act.put,rd]
      refine tk 8 (v:=?ft22) ?gt22 ?_
      case gt22=>(intro w' s0;go_simp;try with_reducible rfl)
      try simp only[Act.put,rd]
      refine tk 9 (v:=?ft23) ?gt23 ?_
      case gt23=>(intro w' s0;go_simp;try with_reducible rfl)
      try simp only[Act.put,rd]
      refine nx 10 fun K hK=>?_
      go_simp
      refine HM1.out.mono ?_
      rintro e w8 ⟨rfl,rfl⟩
      go_simp
      refine hK.out _ _ y0 (fun hHeld2=>?_)
      clear hHeld
      refine nx 11 fun K hK=>?_
      go_simp
      refine HV1.out.mono ?_
      rintro e w9 ⟨rfl,R9,he9⟩
      have HE9:=Lib.hid (HEd.out.trans he9)
      have HO6:=Lib.hid ((HO6.out.drew.ev he9).alloc (.cells #[.int .i64 nv] 3))
      have HO7:=Lib.hid ((HO7.out.drew.ev he9).alloc (.cells #[.int .i64 nv] 3))
      have HE9a:=Lib.hid (HE9.out.alloc (.cells #[.int .i64 nv] 3))
      have HSz:=Lib.hid (show wx.heap.size≤w9.heap.size from Nat.le_trans hz7 (show w7.heap.size≤w9.heap.size from he9.size))
      clear he9
      go_simp
      refine hK.out _ _ (HX.out _ _ HE9.out).1 (fun hHeld3=>?_)
      clear hHeld2
      refine nx 12 fun K hK=>?_
      go_simp
      refine hK.out _ _ (HX.out _ _ HE9a.out).1 (fun hHeld4=>?_)
      clear hHeld3
      try simp only[Act.put,rd]
      refine nx 13 fun K hK=>?_
      refine step_app_int rfl _ _ rfl HO7.out rfl ⟨w9.heap.size,0,none⟩ 1 nv rfl ?P1 ?P2 ?P3 ?P4 ?_
      case P1=>exact cells_at (heap_alloc_new w9 (.cells #[.int .i64 nv] 3)) 0
      case P2=>rw[←HN7.out];omega
      case P3=>have:=HSz.out;simp;omega
      case P4=>exact fun q hq=>HE9a.out.inv.none_of_ge hq
      intro u' w10 ho10 hg10 hs10
      obtain⟨aV,cV,eV,_⟩:=ho10.ints.open
      obtain⟨lV,hlV⟩:∃ l,(chTo s O c (toI T) i ++ [nv]).length=l:=⟨_,rfl⟩
      rw[hlV] at eV
      subst eV
      have HNv:=Lib.hid hlV
      clear hlV
      have hz10:wx.heap.size≤w10.heap.size:=by have:=HSz.out;have:=hg10.size;simp at this;omega
      have HE10:=Lib.hid (HE9a.out.app HO7.out (by have:=HSy.out;omega) hg10)
      have HO10:=Lib.hid ho10
      have HO6:=Lib.hid (HO6.out.kept hg10 (by
       cases e:(Value.slice (some ⟨g5,0,none⟩) m c5).ownBlock with
       | none=>exact .inl rfl
       | some k=>exact .inr (fun e2=>by have h1:=HL5.out k e;have h2:=(HO7.out.lt k e2.symm).1;omega)))
      clear ho10 hg10 hs10
      refine hK.out _ _ ((HX.out _ _ HE10.out).1) (fun hHeld5=>?_)
      clear hHeld4
      refine tk 14 (v:=?ft24) ?gt24 ?_
      case gt24=>(intro w' s0;go_simp;try with_reducible rfl)
      try simp only[Act.put,rd]
      refine wpAnyH_done (by kernel_rfl) ?_ _
      go_wp2_with fail
      go_roundg (m-(i+1))
      case measure=>omega
      case rel=>exact⟨i+1,R9,aV,lV,cV,by omega,by omega,by go_num,rfl,by rw[HS2.out,HNv.out],by have:=HNv.out;rw[List.length_append,←HN7.out] at this;simp at this;omega,hz10,HE10.out,HO6.out,by rw[HS2.out];exact HO10.out⟩
     ·have hb:(oy == c)=false:=beq_eq_false_iff_ne.2 hcc
      have HS2:=Lib.hid (HSt.out.2 hcc)
      clear hcc HSt
      go_wp2_with fail
      go_roundg (m-(i+1))
      case measure=>omega
      case rel=>exact⟨i+1,R7,a7,n7,c7,by omega,by omega,by go_num,rfl,by rw[HS2.out];exact HN7.out,by omega,hz7,HE7.out,HO6.out,by rw[HS2.out];exact HO7.out⟩
    ·obtain rfl:m=i:=by omega
     go_wp2_with fail
     go_ret
     exact HRes.out _ _ _ HE6.out (HO7.out.mono HSy.out)
end
end
section
open Go.RowKit
set_option linter.unusedVariables false
set_option linter.unusedSimpArgs false
set_option linter.unusedSectionVars false
noncomputable def parO (s:List Nat) (r:Nat) (c v:Int):Int:=parZ s r (plC (orderL s r)) c v
noncomputable def pathO (s:List Nat) (r:Nat) (c v:Int):List Int:=pathF s r (plC (orderL s r)) c (sizesL s).length v
section
variable {s : List Nat} (h : TriS s) {r : Nat} (hr : r < s.length)
include h hr
theorem muZ_lt {v c:Int} (hv:IsV s v):muZ (sizesL s).length (plC (orderL s r)) c v<(sizesL s).length:=by
 have k:=(IsV.nat h hr (plC_own h hr) hv).2.2
 unfold muZ
 split <;> omega
theorem isV_of {v:Nat} (hv:v<(sizesL s).length):IsV s (v:Int):=by
 obtain⟨x,hx,e⟩:=h.named hv
 exact⟨x,hx,e⟩
theorem woodR_at {x:Nat} (hx:x<s.length):nth (woodR s r) x=colZ s r (plC (orderL s r)) x:=woodL_at hx
theorem woodR_len:(woodR s r).length=s.length:=woodL_length _ _ _
theorem parIs_eq {v:Nat} {c x:Int} (h0:0≤c) (h2:c≤2) (k:ParIs s (woodR s r) v c x):x=parO s r c (v:Int):=by
 have hp:=plC_own h hr
 rcases k with ⟨d,d1,d2,d3,d4⟩|⟨k,e⟩
 ·rw[woodR_at h hr d1] at d3
  exact (parZ_yes h hr hp h0 h2 ⟨d,d1,by rw[vtx_eq h.perm d1,d2],d3,d4.symm⟩).symm
 ·rw[e]
  refine (parZ_no h hr hp fun b ⟨d,d1,d2,d3,_⟩=>k d d1 ?_ ?_).symm
  ·have:=vtx_eq h.perm d1;omega
  ·rw[woodR_at h hr d1];exact d3
end
section
variable (R : Reg) (w : World) (hI : Inv R w) (p : Value) (s : List Nat) (r : Nat) (hp : MapAt R p s (r : Int) 0) (h : TriS s) (hr : r < s.length) (b : Nat) (D : List Int) (hA : WoodAt R w b p s r (woodR s r) D) (hDs : DartsOf s D)
include hI hp h hr hA hDs
theorem wparent_tri (v:Nat) (hv:v<(sizesL s).length) (c:Int) (hc0:0≤c) (hc3:c<3):
  Calls Tryz.prog 31 #[.pointer (some ⟨b,0,none⟩),.int .i64 (v:Int),.int .i64 c] w (RetV R w (.int .i64 (parO s r c (v:Int)))):=by
 refine (wparent_any R w hI p s r hp h b _ D hA (woodR_len h hr) hDs v hv c hc0 hc3).mono ?_
 rintro e w1 ⟨x,R1,rfl,k,he⟩
 exact⟨by rw[parIs_eq h hr hc0 (by omega) k],R1,he⟩
def RetPth (R:Reg) (w:World) (xs:List Int) (e:Ending) (w':World):Prop:=∃ v R',e=.returned v∧Ev R w R' w'∧OwnI R' w.heap.size 3 w' v xs
set_option maxRecDepth 100000 in
set_option maxHeartbeats 3000000 in
theorem wpath_tri (v:Nat) (hv:v<(sizesL s).length) (c:Int) (hc0:0≤c) (hc3:c<3):
  Calls Tryz.prog 28 #[.pointer (some ⟨b,0,none⟩),.int .i64 (v:Int),.int .i64 c] w (RetPth R w (pathO s r c (v:Int))):=by
 have hpl:=plC_own h hr
 obtain⟨ao,co,ad,cd,hX,-,-,-⟩:=hA.reads
 obtain⟨V,hV⟩:∃ n,D.length=n:=⟨_,rfl⟩
 have hVs:(sizesL s).length=V:=by rw[←hDs.1,hV]
 rw[hV] at hX
 have HHa:=Lib.hid (whas_any w b _ V cd (hX R w (Ev.refl hI)).2.2.2.2.2 (v:Int) c true (decide_eq_true ⟨by omega,by omega,hc0,hc3⟩))
 have HPa:=Lib.hid (fun R' w' (he:Ev R w R' w') (u:Nat) (hu:u<V)=>wparent_tri R' w' he.inv p s r (he.map hp) h hr b D (hA.ev he) hDs u (by omega) c hc0 hc3)
 have hvm:=muZ_lt h hr (c:=c) (isV_of h hr hv)
 have hlen:=pathF_len h hr hpl hc0 (by omega) (sizesL s).length (v:Int) hvm
 have HVm:=Lib.hid hvm
 have hok:=(hp.ok hI).2.2.1
 have hVm:=sizesL_le h.perm
 have HNx:Hid (∀ (f:Nat) (u:Nat),IsV s (u:Int)→muZ (sizesL s).length (plC (orderL s r)) c (u:Int)<f→(parO s r c (u:Int)=-1∧pathF s r (plC (orderL s r)) c f (u:Int)=[(u:Int)])∨∃ z:Nat,parO s r c (u:Int)=(z:Int)∧IsV s (z:Int)∧muZ (sizesL s).length (plC (orderL s r)) c (z:Int)<muZ (sizesL s).length (plC (orderL s r)) c (u:Int)∧∃ g,muZ (sizesL s).length (plC (orderL s r)) c (z:Int)<g∧pathF s r (plC (orderL s r)) c f (u:Int)=(u:Int) :: pathF s r (plC (orderL s r)) c g (z:Int)):=Lib.hid fun f u hu hf=>by
  obtain⟨g,rfl⟩:∃ g,f=g+1:=⟨f-1,by omega⟩
  by_cases q:parZ s r (plC (orderL s r)) c (u:Int)=-1
  ·exact .inl ⟨q,by unfold pathF;rw[if_pos q]⟩
  ·have kp:=parZ_par h hr hpl hc0 (by omega) q
   have l:=ParR.less h hr hpl hc0 (by omega) kp
   have vb:=(ParR.isV h hr hpl kp).2
   have nb:=(IsV.nat h hr hpl vb).1
   refine .inr ⟨(parZ s r (plC (orderL s r)) c (u:Int)).toNat,by show parZ s r (plC (orderL s r)) c (u:Int)=_;omega,?_⟩
   rw[show (((parZ s r (plC (orderL s r)) c (u:Int)).toNat:Nat):Int)=parZ s r (plC (orderL s r)) c (u:Int) by omega]
   have e:pathF s r (plC (orderL s r)) c (g+1) (u:Int)=(u:Int) :: if parZ s r (plC (orderL s r)) c (u:Int)=-1 then [] else pathF s r (plC (orderL s r)) c g (parZ s r (plC (orderL s r)) c (u:Int)):=rfl
   exact⟨vb,l,g,by omega,by rw[e,if_neg q]⟩
 have HVu:=Lib.hid (fun u (hu:IsV s ((u:Nat):Int))=>(by have:=(IsV.nat h hr hpl hu).2.1;omega:u<V))
 have HIv:=Lib.hid (isV_of h hr hv)
 obtain⟨mu,hmu⟩:∃ mu:Int→Nat,muZ (sizesL s).length (plC (orderL s r)) c=mu:=⟨_,rfl⟩
 unfold pathO
 obtain⟨T,hT⟩:∃ T,pathF s r (plC (orderL s r)) c (sizesL s).length (v:Int)=T:=⟨_,rfl⟩
 rw[hmu] at HVm HNx hlen hvm
 rw[hT] at hlen ⊢
 have HTe:=Lib.hid hT
 have hTl:T.length≤131074:=by omega
 have HI:=Lib.hid hI
 obtain⟨V0,hV0⟩:∃ V0,(sizesL s).length=V0:=⟨_,rfl⟩
 rw[hV0] at HVm HTe
 clear hI hX hA hV hVs hDs hpl hmu hT hV0 hvm hlen hok hVm hv hp h hr
 go_enter Tryz.func28,Tryz.ntmps28
 go_wp2_with fail
 refine HHa.out.mono ?_
 rintro e w1 ⟨rfl,rfl⟩
 clear HHa
 go_wp2_with fail
 go_loopg [1,7] (mu (v:Int)+1) (fun g v1 v7 wq=>∃ (cur:Int) (xs:List Int) (R6:Reg) (a7:Option Addr) (n7 c7:Nat),v1=.int .i64 cur∧v7=.slice a7 n7 c7∧xs.length=n7∧n7≤T.length∧Ev R w1 R6 wq∧OwnI R6 w1.heap.size 3 wq (.slice a7 n7 c7) xs∧((cur=-1∧xs=T)∨∃ u f:Nat,cur=(u:Int)∧IsV s (u:Int)∧mu (u:Int)<f∧mu (u:Int)+1≤g∧xs ++ pathF s r (plC (orderL s r)) c f (u:Int)=T))
 case atStart=>exact⟨(v:Int),[],R,none,0,0,rfl,rfl,rfl,by omega,Ev.refl HI.out,OwnI.nil _ _ _ _,.inr ⟨v,V0,rfl,HIv.out,HVm.out,by omega,HTe.out⟩⟩
 case round=>
  obtain⟨cur,xs,R6,a7,n7,c7,rfl,rfl,hxl,hxT,he6,ho6,hcase⟩:=hrel
  as_aux_lemma=>
   have HE6:=Lib.hid he6
   have HO6:=Lib.hid ho6
   have HXl:=Lib.hid hxl
   clear he6 ho6 hxl HTe HVm
   rcases hcase with ⟨rfl,rfl⟩|⟨u,f,rfl,hu,hf,hg,hT⟩
   ·go_wp2_with fail
    go_ret
    exact⟨_,R6,rfl,HE6.out,HO6.out⟩
   ·have hne:((u:Int) != -1)=true:=by simp
    have hnx:=HNx.out f u hu hf
    have huV:=HVu.out u hu
    have HT:=Lib.hid hT
    have HEa:=Lib.hid (HE6.out.alloc (.cells #[.int .i64 (u:Int)] 3))
    have HOa:=Lib.hid (HO6.out.alloc (.cells #[.int .i64 (u:Int)] 3))
    have hn7:n7+1≤T.length:=by
     have e:=congrArg List.length hT
     rw[List.length_append,HXl.out] at e
     rcases hnx with ⟨_,e2⟩|⟨z,_,_,_,g,_,e2⟩ <;> rw[e2] at e <;> simp at e <;> omega
    have HNx1:=Lib.hid hnx
    clear hT hu hnx
    go_wp2_with (at_builtin;refine wpList_app_ints (R:=R6) (B:=w1.heap.size) rfl _ _ rfl HOa.out rfl ⟨wr.heap.size,0,none⟩ 1 1 [(u:Int)] rfl ?a0 ?a1 ?a2 ?a3 ?a4 ?_)
    try (case a0=>first|rfl|simp)
    case a1=>
     intro j hj
     match j,hj with
     | 0,_=>simp[Addr.add,nth]
    case a2=>rw[HXl.out];omega
    case a3=>have:=HE6.out.size;first|omega|(simp;omega)
    case a4=>exact fun q hq=>HEa.out.inv.none_of_ge (by first|(simp;omega)|(simp at hq ⊢;omega))
    intro v9 w9 ho9 hg9 hs9
    obtain⟨a9,c9,rfl,-⟩:=ho9.ints.open
    have hl9:(xs ++ [(u:Int)]).length=n7+1:=by rw[List.length_append,HXl.out];rfl
    rw[hl9] at ho9 ⊢
    have HE9:=Lib.hid (HEa.out.app HOa.out (Nat.le_refl _) hg9)
    have HO9:=Lib.hid ho9
    have HL9:=Lib.hid hl9
    have HP9:=Lib.hid (HPa.out _ _ HE9.out u huV)
    clear ho9 hg9 hs9 hl9 HEa HOa HO6
    go_wp2_with fail
    refine HP9.out.mono ?_
    rintro e w10 ⟨rfl,R10,he10⟩
    have HE10:=Lib.hid (HE9.out.trans he10)
    have HO10:=Lib.hid (HO9.out.ev he10)
    clear he10 HP9 HO9
    rcases HNx1.out with ⟨e1,e2⟩|⟨z,e1,hz,hzm,gz,hgz,e2⟩
    ·have HFin:Hid (xs ++ [(u:Int)]=T):=Lib.hid (by rw[←HT.out,e2])
     rw[e1]
     clear e1 e2 HNx1
     go_wp2_with fail
     go_roundg (mu (u:Int))
     case measure=>omega
     case rel=>exact⟨-1,xs ++ [(u:Int)],R10,a9,n7+1,c9,rfl,rfl,HL9.out,hn7,HE10.out,HO10.out,.inl ⟨rfl,HFin.out⟩⟩
    ·have HFin:Hid ((xs ++ [(u:Int)]) ++ pathF s r (plC (orderL s r)) c gz (z:Int)=T):=Lib.hid (by rw[←HT.out,e2];simp)
     rw[e1]
     clear e1 e2 HNx1
     go_wp2_with fail
     go_roundg (mu (u:Int))
     case measure=>omega
     case rel=>exact⟨(z:Int),xs ++ [(u:Int)],R10,a9,n7+1,c9,rfl,rfl,HL9.out,hn7,HE10.out,HO10.out,.inr ⟨z,gz,rfl,hz,hgz,by omega,HFin.out⟩⟩
end
end
section
open Go.RowKit
set_option linter.unusedVariables false
theorem FreeI.six14 {R:Reg} {w:World} (hI:Inv R w) (a b c d e f:Int):FreeI R (w.alloc (.cells #[.int .i64 a,.int .i64 b,.int .i64 c,.int .i64 d,.int .i64 e,.int .i64 f] 3)) (.slice (some ⟨w.heap.size,0,none⟩) 6 6) [a,b,c,d,e,f]:=by
 have h:=World.ownsRow_lit (base:=w.heap.size) (e:=3) (size:=1) w #[.int .i64 a,.int .i64 b,.int .i64 c,.int .i64 d,.int .i64 e,.int .i64 f] 6 (Nat.le_refl _) (by simp[maxLen]) rfl
 have ho:OwnI R w.heap.size 3 (w.alloc (.cells #[.int .i64 a,.int .i64 b,.int .i64 c,.int .i64 d,.int .i64 e,.int .i64 f] 3)) (.slice (some ⟨w.heap.size,0,none⟩) 6 6) [a,b,c,d,e,f]:=by
  refine⟨by simpa using h,fun k hk=>?_⟩
  simp only[Value.ownBlock,Option.some.injEq] at hk
  rw[←hk]
  exact hI.none_of_ge (Nat.le_refl _)
 exact ho.free
end
section
open Go.RowKit
set_option linter.unusedVariables false
set_option linter.unusedSimpArgs false
theorem wlist_any (R:Reg) (w:World) (hI:Inv R w) (b:Nat) (p:Value) (s:List Nat) (r:Nat) (O D:List Int) (hA:WoodAt R w b p s r O D) (hn:O.length≤4194304):
  Calls Tryz.prog 35 #[.pointer (some ⟨b,0,none⟩)] w (RetOwn R w O):=by
 obtain⟨ao,co,ad,cd,h1,h2,h3,h4⟩:=hA
 have HC:=Lib.hid (clone_any R w hI _ O h3.1 hn)
 have z4:=cells_at h1 4
 clear hI h1 h2 h3 h4
 go_enter Tryz.func35,Tryz.ntmps35
 go_wp2_with fail
 refine HC.out.mono ?_
 rintro e w1 ⟨v1,rfl,he1,ho1⟩
 have H1:=Lib.hid he1
 have H2:=Lib.hid ho1
 clear he1 ho1
 obtain⟨a1,c1,rfl,-⟩:=H2.out.ints.open
 go_wp2_with fail
 go_ret
 exact⟨_,rfl,H1.out,H2.out⟩
set_option maxRecDepth 100000 in
set_option maxHeartbeats 1000000 in
theorem of15_any (R:Reg) (w:World) (hI:Inv R w) (v:Value) (s:List Nat) (root lone:Int) (hv:FreeI R w v (toI s)) (hS:IsPerm s) (hok:MapOk s root lone):
  Calls Tryz.prog 26 #[refV v root lone] w fun e w'=>∃ p R',e=.returned p∧Ev R w R' w'∧MapAt R' p s root lone:=by
 obtain⟨a0,cap0,rfl,_⟩:=hv.open
 rw[toI_length] at hv ⊢
 unfold refV
 have he1:Ev R w R (w.alloc (.cells #[.slice a0 s.length cap0,.int .i64 root,.int .i64 lone] 26)):=(Ev.refl hI).alloc _
 have HN:=Lib.hid (new_yes R _ he1.inv _ s (hv.ev he1) root lone hS hok)
 have HE1:=Lib.hid he1
 clear hI hv hS hok he1
 go_enter Tryz.func26,Tryz.ntmps26
 go_wp2_with fail
 refine HN.out.mono ?_
 rintro e w2 ⟨p,R2,rfl,he2,hp⟩
 have HE2:=Lib.hid (HE1.out.trans he2)
 have HP:=Lib.hid hp
 clear he2 hp
 go_wp2_with fail
 go_ret
 exact⟨_,R2,rfl,HE2.out,HP.out⟩
end
section
open Go.RowKit
set_option linter.unusedVariables false
set_option linter.unusedSimpArgs false
set_option maxRecDepth 100000 in
set_option maxHeartbeats 2000000 in
theorem r14corners_any (R:Reg) (w:World) (hI:Inv R w) (v:Value) (s:List Nat) (r:Nat) (lone:Int) (hv:FreeI R w v (toI s)) (hS:IsPerm s) (hes:s.length % 2=0) (hn:s.length≤4194304) (hr:r<s.length):
  Calls Tryz.prog 21 #[refV v (r:Int) lone] w (RetOwn R w (cor3 s r)):=by
 obtain⟨a0,c0,rfl,hv⟩:=hv.open
 rw[toI_length] at hv ⊢
 unfold refV
 have hph:=phiL_perm hS hes
 have hpl:=phiL_length s
 obtain⟨r1,hr1⟩:∃ x,at' (phiL s) r=x:=⟨_,rfl⟩
 obtain⟨r2,hr2⟩:∃ x,at' (phiL s) r1=x:=⟨_,rfl⟩
 have hl1:r1<s.length:=by rw[←hr1,←hpl];exact hph.lt (by rw[hpl];exact hr)
 have hl2:r2<s.length:=by rw[←hr2,←hpl];exact hph.lt (by rw[hpl];exact hl1)
 have he1:Ev R w R (w.alloc (.cells #[.slice a0 s.length c0,.int .i64 (r:Int),.int .i64 lone] 26)):=(Ev.refl hI).alloc _
 have HX:=Lib.hid (fun R' w' (h:Ev R (w.alloc (.cells #[.slice a0 s.length c0,.int .i64 (r:Int),.int .i64 lone] 26)) R' w')=>h.ref3 (hI.none_of_ge (Nat.le_refl _)))
 have HNm:=Lib.hid (fun w' (hee:Ev R w R w')=>rnames_any R w' hee.inv _ s (hv.ev hee) hS hn)
 have HPhi:=Lib.hid (fun w' (hee:Ev R w R w')=>rphi_any R w' hee.inv _ s (r:Int) lone (hv.ev hee) hn hes)
 unfold refV at HPhi
 have HE1:=Lib.hid he1
 obtain⟨N,hN⟩:∃ N,s.length=N:=⟨_,rfl⟩
 have hnl:(namesL s).length=N:=by rw[namesL_length,hN]
 have HNl:=Lib.hid hnl
 have HPl:=Lib.hid (show (toI (phiL s)).length=N by rw[toI_length,hpl,hN])
 have hp0:nth (toI (phiL s)) r=(r1:Int):=by rw[toI_nth,hr1]
 have hp1:nth (toI (phiL s)) r1=(r2:Int):=by rw[toI_nth,hr2]
 have HP0:=Lib.hid hp0
 have HP1:=Lib.hid hp1
 have HC:Hid (cor3 s r=[nth (namesL s) r,nth (namesL s) r1,nth (namesL s) r2]):=Lib.hid (by unfold cor3;rw[hr1,hr2])
 rw[hN] at hr hl1 hl2 HX HE1 HPhi HNm ⊢
 have HI:=Lib.hid hI
 clear hI hv hS hes hph hpl he1 hr1 hr2 hnl hp0 hp1
 go_enter Tryz.func21,Tryz.ntmps21
 go_wp2_with fail
 obtain⟨x0,x1,x2⟩:=HX.out _ _ (Ev.refl HE1.out.inv)
 go_wp2_with fail
 refine (HNm.out _ HE1.out).mono ?_
 rintro e w2 ⟨v2,rfl,he2,ho2⟩
 obtain⟨a2,c2,rfl,_⟩:=ho2.ints.open
 rw[HNl.out] at ho2 ⊢
 have HE2:=Lib.hid he2
 have HO2:=Lib.hid ho2
 clear he2 ho2 x0 x1 x2
 obtain⟨x0,x1,x2⟩:=HX.out _ _ HE2.out
 go_wp2_with fail
 refine (HPhi.out _ (HE1.out.trans HE2.out)).mono ?_
 rintro e w3 ⟨v3,rfl,he3,ho3⟩
 obtain⟨a3,c3,rfl,_⟩:=ho3.ints.open
 rw[HPl.out] at ho3 ⊢
 have HE3:=Lib.hid (HE2.out.trans he3)
 have HO2:=Lib.hid (HO2.out.ev he3)
 have HO3:=Lib.hid ho3
 clear he3 ho3 x0 x1 x2 HE2
 obtain⟨x0,x1,x2⟩:=HX.out _ _ HE3.out
 obtain⟨gn,rfl,_,_,y0,_⟩:=HO2.out.headAt HNl.out hr
 obtain⟨_,e,_,_,y1,_⟩:=HO2.out.headAt HNl.out hl1
 cases e
 obtain⟨_,e,_,_,y2,_⟩:=HO2.out.headAt HNl.out hl2
 cases e
 obtain⟨gp,rfl,_,_,z0,_⟩:=HO3.out.headAt HPl.out hr
 obtain⟨_,e,_,_,z1,_⟩:=HO3.out.headAt HPl.out hl1
 cases e
 rw[HP0.out] at z0
 rw[HP1.out] at z1
 go_wp2_with fail
 obtain⟨n0,hn0⟩:∃ x,nth (namesL s) r=x:=⟨_,rfl⟩
 obtain⟨n1,hn1⟩:∃ x,nth (namesL s) r1=x:=⟨_,rfl⟩
 obtain⟨n2,hn2⟩:∃ x,nth (namesL s) r2=x:=⟨_,rfl⟩
 have HC3:Hid (cor3 s r=[n0,n1,n2]):=Lib.hid (by rw[HC.out,hn0,hn1,hn2])
 rw[hn0] at y0
 rw[hn1] at y1
 rw[hn2] at y2
 clear hn0 hn1 hn2
 go_region
 go_wp2_with fail
 go_ret
 have HE4:=Lib.hid (HE1.out.trans HE3.out)
 have hno:=(OwnI.new3 (R:=R) (B:=w.heap.size) HE4.out.size (HE4.out.inv.none_of_ge (Nat.le_refl _)) n0 n1 n2).drew
 rw[←HC3.out] at hno
 exact⟨.slice (some ⟨w3.heap.size,0,none⟩) 3 3,rfl,(HE4.out.alloc _).drew,hno⟩
end
end Go.Proofs.YtgphnkkdmlohlaaGreat
