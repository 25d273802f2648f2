/- ShellRights, the walk: it answers true. Conditions: none. -/
import Derived.Test.YtgphnkkdmlohlaaZShellRights41
import Derived.Test.YtgphnkkdmlohlaaZShellRights40
import Derived.Test.YtgphnkkdmlohlaaZShellRights39
import Derived.Test.YtgphnkkdmlohlaaZShellRights42
import Derived.Test.YtgphnkkdmlohlaaZShellRights44
import Derived.Test.YtgphnkkdmlohlaaZShellRights45
import Derived.Test.YtgphnkkdmlohlaaZShellRights13
import Derived.Test.YtgphnkkdmlohlaaZShellRights36
namespace Go.Proofs.Ytgphnkkdmlohlaa
open Go.RowKit
set_option linter.unusedVariables false
set_option linter.unusedSimpArgs false
set_option maxRecDepth 100000 in
set_option maxHeartbeats 4000000 in
theorem shellRights_walk (w:World) (n root:Nat) (hn:n≤255) (hr:root≤255) (v:Value) (bs:List Nat) (hv:FreeB noReg w v bs) (vp:Value) (ps:List (Nat × Nat)) (hps:FreeP noReg w vp ps) (vz:Value) (zs:List Int) (hzs:FreeI noReg w vz zs):
  Calls Try.prog 3 #[.int .u8 (n:Int),v,.int .u8 (root:Int),vp,vz] w (RetTrue noReg w):=by
 have HA:=Lib.hid (awake14_any noReg w (Inv.noReg w))
 have HTr:=Lib.hid (fun R' w' (h:Ev noReg w R' w')=>r14tri_any R' w' h.inv (n % 12) (by omega) v bs (hv.ev h) root hr)
 obtain⟨q,hq⟩:∃ q,n % 12=q:=⟨_,rfl⟩
 have hq16:q<12:=by omega
 have hqm:(n:Int) % 12=(q:Int):=by omega
 rw[hq] at HTr
 obtain⟨a0,c0,rfl,_,_⟩:=hv
 obtain⟨ap,cp,rfl,hpm,_⟩:=id hps
 obtain⟨az,cz,rfl,hzc,hzm,_⟩:=id hzs.1
 have HPs:=Lib.hid hps
 have HZs:=Lib.hid hzs
 clear hps hzs
 clear hq
 go_enter Try.func3,Try.ntmps3
 go_wp2_with fail
 refine HA.out.mono ?_
 rintro e w1 ⟨rfl,R1,he1⟩
 have HE1:=Lib.hid he1
 have HTr:=Lib.hid (HTr.out _ _ he1)
 clear he1 HA
 go_wp2_with fail
 refine HTr.out.mono ?_
 rintro e w2 ⟨s,r,hT,hsl,hrt,a,c,rfl,he2,ho2⟩
 as_aux_lemma=>
  unfold refV
  have hrs:r<s.length:=by omega
  have hok:MapOk s (r:Int) 0:=by unfold MapOk;have:=hT.even;omega
  have hea:=he2.alloc (.cells #[.slice a s.length c,.int .i64 (r:Int),.int .i64 0] 27)
  have hoa:=ho2.alloc (.cells #[.slice a s.length c,.int .i64 (r:Int),.int .i64 0] 27)
  have HOf:=Lib.hid (of14_any R1 _ hea.inv _ s (r:Int) 0 hoa.free hT.perm hok)
  unfold refV at HOf
  have HEa:=Lib.hid (HE1.out.trans hea)
  have HOa:=Lib.hid hoa.free
  have HT:=Lib.hid hT
  have HR:=Lib.hid hrs
  have HVm:=Lib.hid (sizesL_le hT.perm)
  have hbx:=heap_alloc_new w2 (.cells #[.slice a s.length c,.int .i64 (r:Int),.int .i64 0] 27)
  have HX:=Lib.hid (fun R' w' (h:Ev R1 (w2.alloc (.cells #[.slice a s.length c,.int .i64 (r:Int),.int .i64 0] 27)) R' w')=>boxC_cells (h.boxC3 hbx (he2.inv.none_of_ge (Nat.le_refl _))).1)
  obtain⟨N,hN⟩:∃ N,s.length=N:=⟨_,rfl⟩
  have hN1000:N≤1000:=by omega
  have HN:=Lib.hid hN
  rw[hN] at HOf HEa HX HOa ⊢
  clear he2 ho2 HTr hT hok hea hoa hsl hrt hrs hN HE1 hbx
  go_wp2_with fail
  obtain⟨bx,hbe⟩:∃ x,w2.heap.size=x:=⟨_,rfl⟩
  obtain⟨wa,hwa⟩:∃ x,w2.alloc (.cells #[.slice a N c,.int .i64 (r:Int),.int .i64 0] 27)=x:=⟨_,rfl⟩
  rw[hbe,hwa] at HX
  rw[hwa] at HOf HEa HOa
  rw[hwa,hbe]
  clear hwa hbe
  refine HOf.out.mono ?_
  rintro e w3 ⟨p,R3,rfl,he3,hp3⟩
  have HE3:=Lib.hid he3
  have HOr:=Lib.hid (sorder_any R3 w3 he3.inv p s r hp3 HT.out HR.out)
  have HP:=Lib.hid hp3
  clear he3 hp3 HOf
  go_wp2_with fail
  refine HOr.out.mono ?_
  rintro e w4 ⟨v4,R4,rfl,he4,ho4⟩
  have hVl:(orderL s r).length≤1000:=by rw[order_len HT.out HR.out];have:=HVm.out;rw[HN.out] at this;omega
  obtain⟨V,hV⟩:∃ V,(orderL s r).length=V:=⟨_,rfl⟩
  obtain⟨a4,c4,rfl,_⟩:=ho4.ints.open
  rw[hV] at ho4 hVl ⊢
  have HVq:=Lib.hid hV
  have HE4:=Lib.hid (HE3.out.trans he4)
  have hV3:3≤V:=by rw[←hV];have:=order_len HT.out HR.out;have:=HT.out.big;omega
  have HB3:Hid (w.heap.size≤w3.heap.size∧wa.heap.size≤w3.heap.size):=Lib.hid ⟨Nat.le_trans HEa.out.size HE3.out.size,HE3.out.size⟩
  have HO4:=Lib.hid ho4
  have HP4:=Lib.hid (he4.map HP.out)
  have hVm2:(sizesL s).length=V:=by rw[←order_len HT.out HR.out];exact hV
  have HVs:=Lib.hid hVm2
  obtain⟨g4,rfl,-,hgn,-,-⟩:=ho4.headAt hV (i:=0) (by omega)
  have HGn:=Lib.hid hgn
  have HGl:=Lib.hid (ho4.lt g4 rfl)
  clear he4 ho4 HP HE3 HOr hV HVm hVm2 hgn
  go_wp2_with fail
  obtain⟨P,hP⟩:∃ P,ps.length=P:=⟨_,rfl⟩
  have HPl:=Lib.hid hP
  have HXn:=Lib.hid (fun b (hb:R4 b=none)=>hb)
  try rw[hP]
  rw[hP] at hpm
  have hPm:P≤9223372036854775807:=by unfold maxLen at hpm;omega
  clear hP
  as_aux_lemma=>
   go_loopg [36] P (fun g v36 wq=>∃ (i:Nat) (xs:List Int),i≤P∧P-i≤g∧v36=.int .i64 (i:Int)∧Ev R1 wa R4 wq∧OwnI R4 w3.heap.size 3 wq (.slice (some ⟨g4,0,none⟩) V c4) xs∧xs.length=V)
   case atStart=>exact⟨0,orderL s r,Nat.zero_le _,by omega,rfl,HE4.out,HO4.out,HVq.out⟩
   case round=>
    obtain⟨i,xs,hi,hg,rfl,he,ho,hxl⟩:=hrel
    as_aux_lemma=>
     have HE:=Lib.hid he
     have HO:=Lib.hid ho
     have HL:=Lib.hid hxl
     clear he ho hxl HO4
     by_cases hil:i<P
     ·
      obtain⟨bp,off,rfl,hbn,zp0,zp1,hz0,hz1⟩:=(HPs.out.ev (HEa.out.trans HE.out)).cells i (by rw[HPl.out];exact hil)
      obtain⟨A,hA⟩:∃ A,(at2 ps i).1=A:=⟨_,rfl⟩
      obtain⟨Bb,hB⟩:∃ A,(at2 ps i).2=A:=⟨_,rfl⟩
      rw[Nat.mul_comm 2 i] at zp0 zp1
      rw[hA] at zp0 hz0
      rw[hB] at zp1 hz1
      clear hA hB hbn
      have hiP:(i:Int)<(P:Int):=by omega
      have HEn:=Lib.hid (HE.out.alloc (.cells #[.int .u8 (A:Int),.int .u8 (Bb:Int)] 34))
      have HOn:=Lib.hid (HO.out.alloc (.cells #[.int .u8 (A:Int),.int .u8 (Bb:Int)] 34))
      by_cases hi3:i<3
      ·have hb3:decide ((i:Int)<3)=true:=decide_eq_true (by omega)
       have hbV:decide ((V:Int) > 0)=true:=decide_eq_true (by omega)
       have hbV2:decide ((0:Int)<(V:Int))=true:=decide_eq_true (by omega)
       go_wp2_with fail
       obtain⟨wc,hwc⟩:∃ x,wr.alloc (.cells #[.int .u8 (A:Int),.int .u8 (Bb:Int)] 34)=x:=⟨_,rfl⟩
       have hk0:wc.cell? ⟨wr.heap.size,0,none⟩=some (.int .u8 (A:Int)):=by rw[←hwc];exact cells_at (heap_alloc_new wr _) 0
       have hk1:wc.cell? ⟨wr.heap.size,1,none⟩=some (.int .u8 (Bb:Int)):=by rw[←hwc];exact cells_at (heap_alloc_new wr _) 1
       rw[hwc] at HEn HOn ⊢
       obtain⟨bb,hbb⟩:∃ x,wr.heap.size=x:=⟨_,rfl⟩
       rw[hbb] at hk0 hk1 ⊢
       have hA1:IntKind.i64.wrap (A:Int)=(A:Int):=IntWalk.i64_in _ (by omega)
       have hB1:IntKind.i64.wrap (Bb:Int)=(Bb:Int):=IntWalk.i64_in _ (by omega)
       have hVne:¬ V=0:=by omega
       have hra:(A:Int).tmod (V:Int)=((A % V:Nat):Int):=rfl
       have hrb:(Bb:Int).tmod (V:Int)=((Bb % V:Nat):Int):=rfl
       have hkaV:A % V<V:=Nat.mod_lt _ (by omega)
       have hkbV:Bb % V<V:=Nat.mod_lt _ (by omega)
       obtain⟨ka,hka⟩:∃ x,A % V=x:=⟨_,rfl⟩
       obtain⟨kb,hkb⟩:∃ x,Bb % V=x:=⟨_,rfl⟩
       rw[hka] at hra hkaV
       rw[hkb] at hrb hkbV
       have hkaI:(ka:Int)<(V:Int):=by omega
       have hkbI:(kb:Int)<(V:Int):=by omega
       clear hka hkb hwc hbb
       have HEd:=Lib.hid HEn.out
       have HOd:=Lib.hid HOn.out
       refine wp_region_held_drew (S:=fun W=>W.cell? ⟨bb,0,none⟩=some (.int .u8 (A:Int))∧W.cell? ⟨bb,1,none⟩=some (.int .u8 (Bb:Int))) (by kernel_rfl) ⟨hk0,hk1⟩ (fun hHeld=>?_)
       refine tk 0 (v:=?ft1) ?gt1 ?_
       case gt1=>(intro w' ⟨s0,s1⟩;go_simp;try with_reducible rfl)
       try simp only[Act.put,rd]
       refine tk 1 (v:=?ft2) ?gt2 ?_
       case gt2=>(intro w' ⟨s0,s1⟩;go_simp;try with_reducible rfl)
       try simp only[Act.put,rd]
       refine tk 2 (v:=?ft3) ?gt3 ?_
       case gt3=>(intro w' ⟨s0,s1⟩;go_simp;try with_reducible rfl)
       try simp only[Act.put,rd]
       refine tk 3 (v:=?ft4) ?gt4 ?_
       case gt4=>(intro w' ⟨s0,s1⟩;go_simp;try with_reducible rfl)
       try simp only[Act.put,rd]
       refine tk 4 (v:=?ft5) ?gt5 ?_
       case gt5=>(intro w' ⟨s0,s1⟩;go_simp;try with_reducible rfl)
       try simp only[Act.put,rd]
       refine tk 5 (v:=?ft6) ?gt6 ?_
       case gt6=>(intro w' ⟨s0,s1⟩;go_simp;try with_reducible rfl)
       try simp only[Act.put,rd]
       refine tk 6 (v:=?ft7) ?gt7 ?_
       case gt7=>(intro w' ⟨s0,s1⟩;go_simp;try with_reducible rfl)
       try simp only[Act.put,rd]
       refine tk 7 (v:=?ft8) ?gt8 ?_
       case gt8=>(intro w' ⟨s0,s1⟩;go_simp;try with_reducible rfl)
       try simp only[Act.put,rd]
       refine tk 8 (v:=?ft9) ?gt9 ?_
       case gt9=>(intro w' ⟨s0,s1⟩;go_simp;try with_reducible rfl)
       try simp only[Act.put,rd]
       refine tk 9 (v:=?ft10) ?gt10 ?_
       case gt10=>(intro w' ⟨s0,s1⟩;go_simp;try with_reducible rfl)
       try simp only[Act.put,rd]
       refine tk 10 (v:=?ft11) ?gt11 ?_
       case gt11=>(intro w' ⟨s0,s1⟩;go_simp;try with_reducible rfl)
       try simp only[Act.put,rd]
       refine tk 11 (v:=?ft12) ?gt12 ?_
       case gt12=>(intro w' ⟨s0,s1⟩;go_simp;try with_reducible rfl)
       try simp only[Act.put,rd]
       refine tk 12 (v:=?ft13) ?gt13 ?_
       case gt13=>(intro w' ⟨s0,s1⟩;go_simp;try with_reducible rfl)
       try simp only[Act.put,rd]
       refine tk 13 (v:=?ft14) ?gt14 ?_
       case gt14=>(intro w' ⟨s0,s1⟩;go_simp;try with_reducible rfl)
       try simp only[Act.put,rd]
       refine wpAnyH_done (by kernel_rfl) ?_ _
       clear hHeld hA1 hB1 hra hrb hk0 hk1
       obtain⟨_,e,-,-,hc0,hf0⟩:=HOd.out.headAt HL.out (i:=ka) hkaV
       cases e
       obtain⟨_,e,-,-,hc1,hf1⟩:=HOd.out.headAt HL.out (i:=kb) hkbV
       cases e
       obtain⟨xa,hxa⟩:∃ x,nth xs ka=x:=⟨_,rfl⟩
       obtain⟨xb,hxb⟩:∃ x,nth xs kb=x:=⟨_,rfl⟩
       rw[hxa] at hc0
       rw[hxb] at hc1
       have hp1:=HOd.out.put HL.out ka hkaV xb
       have hl1:(xs.set ka xb).length=V:=by rw[List.length_set];exact HL.out
       have hp2:=hp1.put hl1 kb hkbV xa
       have HPu:=Lib.hid hp2
       have hE2:=(HEd.out.setCell (p:=⟨g4,ka,none⟩) (by have:=HB3.out.2;have:=HGl.out.1;show wa.heap.size≤g4;omega) HGn.out (.int .i64 xb)).setCell (p:=⟨g4,kb,none⟩) (by have:=HB3.out.2;have:=HGl.out.1;show wa.heap.size≤g4;omega) HGn.out (.int .i64 xa)
       have HE2:=Lib.hid hE2
       have hl2:((xs.set ka xb).set kb xa).length=V:=by rw[List.length_set];exact hl1
       have HL2:=Lib.hid hl2
       clear hp1 hl1 hp2 hE2 hl2 hxa hxb HEn HOn HEd HOd
       go_upto_region 11 with fail
       have mixed:Try.prog.follows Departure.mixedOrders=true:=by kernel_rfl
       have hc1':(wc.setCell ⟨g4,ka,none⟩ (.int .i64 xb)).cell? ⟨g4,kb,none⟩=some (.int .i64 xb):=by
        by_cases e:ka=kb
        ·subst e;exact World.cell?_setCell_same _ _ _ (by rw[hc0])
        ·rw[World.cell?_setCell_other _ _ _ _ (fun q=>e (by cases q;rfl))];exact hc1
       go_region_o
       go_wp2_with fail
       go_roundg (P-(i+1))
       case measure=>omega
       case rel=>exact⟨i+1,_,by omega,by omega,by go_num,HE2.out.drew.drew,HPu.out.drew.drew,HL2.out⟩
      ·have hb3:decide ((i:Int)<3)=false:=decide_eq_false (by omega)
       go_wp2_with fail
       go_roundg (P-(i+1))
       case measure=>omega
       case rel=>exact⟨i+1,xs,by omega,by omega,by go_num,HEn.out,HOn.out,HL.out⟩
     ·
      obtain rfl:i=P:=by omega
      have hN6:s.length≤131073:=by rw[HN.out];omega
      obtain⟨Z,hZ⟩:∃ Z,zs.length=Z:=⟨_,rfl⟩
      have hzf:=HZs.out.ev (HEa.out.trans HE.out)
      rw[hZ] at hzf hzc
      try rw[hZ]
      have HZf:=Lib.hid hzf
      have HZl:=Lib.hid hZ
      clear hzf hZ hg hi
      go_upto_region 13 with fail
      go_cut [4] (fun s4 wx=>∃ (wn:World) (ay:Option Addr) (m cy:Nat) (ys:List Int),wn=wx∧s4=.slice ay m cy∧ys.length=m∧m≤20∧Ev R4 wr R4 wn∧FreeI R4 wn (.slice ay m cy) ys)
      case first=>
       by_cases hz20:Z≤20
       ·have HCl:=Lib.hid (clone_any R4 wr HE.out.inv _ (zs.take Z) (HZf.out.take Z (Nat.le_refl _)).1 (by rw[List.length_take];omega))
        have hmin:min (Z:Int) 20=(Z:Int):=by omega
        have hzi:(Z:Int)≤(cz:Int):=by omega
        have hz0:(0:Int)≤(Z:Int):=by omega
        have hlt:(zs.take Z).length=Z:=by rw[List.length_take,HZl.out];omega
        have HLt:=Lib.hid hlt
        clear hlt
        go_wp2_with fail
        refine HCl.out.mono ?_
        rintro e w6 ⟨v6,rfl,he6,ho6⟩
        obtain⟨a6,c6,rfl,-⟩:=ho6.ints.open
        rw[HLt.out] at ho6 ⊢
        have HE6:=Lib.hid he6
        have HO6:=Lib.hid ho6.free
        clear he6 ho6
        go_wp2_with fail
        go_meet
        exact⟨_,_,_,_,_,rfl,rfl,HLt.out,hz20,HE6.out,HO6.out⟩
       ·have HCl:=Lib.hid (clone_any R4 wr HE.out.inv _ (zs.take 20) (HZf.out.take 20 (by omega)).1 (by rw[List.length_take];omega))
        have hmin:min (Z:Int) 20=20:=by omega
        have hzi:(20:Int)≤(cz:Int):=by omega
        have hlt:(zs.take 20).length=20:=by rw[List.length_take,HZl.out];omega
        have HLt:=Lib.hid hlt
        clear hlt
        go_wp2_with fail
        refine HCl.out.mono ?_
        rintro e w6 ⟨v6,rfl,he6,ho6⟩
        obtain⟨a6,c6,rfl,-⟩:=ho6.ints.open
        rw[HLt.out] at ho6 ⊢
        have HE6:=Lib.hid he6
        have HO6:=Lib.hid ho6.free
        clear he6 ho6
        go_wp2_with fail
        go_meet
        exact⟨_,_,_,_,_,rfl,rfl,HLt.out,Nat.le_refl _,HE6.out,HO6.out⟩
      case rest=>
       obtain⟨wx,ay,m,cy,ys,rfl,rfl,hyl,hm20,he6,hy6⟩:=hcut
       as_aux_lemma=>
        have HE6:=Lib.hid (HE.out.trans he6).drew
        have HY6:=Lib.hid (hy6.ev (Ev.refl he6.inv).drew)
        have HX6:=Lib.hid (HO.out.free.ev (he6.drew))
        have HYl:=Lib.hid hyl
        obtain⟨x0,x1,x2,-⟩:=HX.out _ _ HE6.out
        have HSr:=Lib.hid (sright_any R4 _ HE6.out.inv p s r HP4.out HT.out HR.out (some ⟨g4,0,none⟩) V c4 xs HX6.out HL.out (by omega))
        clear he6 hy6 hyl HE HO
        go_wp2_with fail
        refine wp_region_held_drew (S:=fun W=>W.cell? ⟨bx,0,none⟩=some (.slice a N c)∧W.cell? ⟨bx,1,none⟩=some (.int .i64 (r:Int))∧W.cell? ⟨bx,2,none⟩=some (.int .i64 0)) (by kernel_rfl) ⟨x0,x1,x2⟩ (fun hHeld=>?_)
        refine tk 0 (v:=?ft15) ?gt15 ?_
        case gt15=>(intro w' ⟨s0,s1,s2⟩;go_simp;try with_reducible rfl)
        try simp only[Act.put,rd]
        refine tk 1 (v:=?ft16) ?gt16 ?_
        case gt16=>(intro w' ⟨s0,s1,s2⟩;go_simp;try with_reducible rfl)
        try simp only[Act.put,rd]
        refine tk 3 (v:=?ft17) ?gt17 ?_
        case gt17=>(intro w' ⟨s0,s1,s2⟩;go_simp;try with_reducible rfl)
        try simp only[Act.put,rd]
        refine tk 4 (v:=?ft18) ?gt18 ?_
        case gt18=>(intro w' ⟨s0,s1,s2⟩;go_simp;try with_reducible rfl)
        try simp only[Act.put,rd]
        refine nx 2 fun K hK=>?_
        go_simp
        refine HSr.out.mono ?_
        rintro e w7 ⟨b1,R7,rfl,hb1,he7⟩
        have HE7:=Lib.hid (HE6.out.trans he7)
        have HX7:=Lib.hid (HX6.out.ev he7)
        have HY7:=Lib.hid (HY6.out.ev he7)
        have HP7:=Lib.hid (he7.map HP4.out)
        obtain⟨x0,x1,x2,-⟩:=HX.out _ _ HE7.out
        have hRr:=r14right_any R7 w7 HE7.out.inv (.slice a N c) s r (HOa.out.ev HE7.out) HT.out hN6 HR.out (some ⟨g4,0,none⟩) V c4 xs HX7.out HL.out (by omega)
        unfold refV at hRr
        have HRr:=Lib.hid hRr
        have HB1:=Lib.hid hb1
        clear he7 hRr hb1 HSr
        go_simp
        refine hK.out _ _ ⟨x0,x1,x2⟩ (fun hHeld2=>?_)
        clear hHeld
        try simp only[Act.put,rd]
        refine nx 5 fun K hK=>?_
        go_simp
        refine HRr.out.mono ?_
        rintro e w8 ⟨b2,R8,rfl,hb2,he8⟩
        have hbe:b1=b2:=by
         have h1:=HB1.out
         cases b1 <;> cases b2 <;> simp_all
        subst hbe
        have HE8:=Lib.hid (HE7.out.trans he8)
        have HY8:=Lib.hid (HY7.out.ev he8)
        have HP8:=Lib.hid (he8.map HP7.out)
        obtain⟨x0,x1,x2,-⟩:=HX.out _ _ HE8.out
        have HSy:=Lib.hid (sright_any R8 _ HE8.out.inv p s r HP8.out HT.out HR.out ay m cy ys HY8.out HYl.out (by omega))
        clear he8 hb2 HRr HB1
        go_simp
        refine hK.out _ _ ⟨x0,x1,x2⟩ (fun hHeld3=>?_)
        clear hHeld2
        try simp only[Act.put,rd]
        refine tk 6 (v:=(.bool true)) ?gt19 ?_
        case gt19=>(intro w' ⟨s0,s1,s2⟩;go_simp;try with_reducible rfl)
        try simp only[Act.put,rd]
        refine tk 7 (v:=(.bool true)) ?gt20 ?_
        case gt20=>(intro w' ⟨s0,s1,s2⟩;go_simp;try with_reducible rfl)
        try simp only[Act.put,rd]
        refine tk 8 (v:=?ft21) ?gt21 ?_
        case gt21=>(intro w' ⟨s0,s1,s2⟩;go_simp;try with_reducible rfl)
        try simp only[Act.put,rd]
        refine tk 9 (v:=?ft22) ?gt22 ?_
        case gt22=>(intro w' ⟨s0,s1,s2⟩;go_simp;try with_reducible rfl)
        try simp only[Act.put,rd]
        refine tk 11 (v:=?ft23) ?gt23 ?_
        case gt23=>(intro w' ⟨s0,s1,s2⟩;go_simp;try with_reducible rfl)
        try simp only[Act.put,rd]
        refine tk 12 (v:=?ft24) ?gt24 ?_
        case gt24=>(intro w' ⟨s0,s1,s2⟩;go_simp;try with_reducible rfl)
        try simp only[Act.put,rd]
        refine nx 10 fun K hK=>?_
        go_simp
        refine HSy.out.mono ?_
        rintro e w9 ⟨b3,R9,rfl,hb3,he9⟩
        have HE9:=Lib.hid (HE8.out.trans he9)
        have HY9:=Lib.hid (HY8.out.ev he9)
        have HP9:=Lib.hid (he9.map HP8.out)
        obtain⟨x0,x1,x2,-⟩:=HX.out _ _ HE9.out
        have hRy:=r14right_any R9 w9 HE9.out.inv (.slice a N c) s r (HOa.out.ev HE9.out) HT.out hN6 HR.out ay m cy ys HY9.out HYl.out (by omega)
        unfold refV at hRy
        have HRy:=Lib.hid hRy
        have HB3':=Lib.hid hb3
        clear he9 hRy hb3 HSy
        go_simp
        refine hK.out _ _ ⟨x0,x1,x2⟩ (fun hHeld4=>?_)
        clear hHeld3
        try simp only[Act.put,rd]
        refine nx 13 fun K hK=>?_
        go_simp
        refine HRy.out.mono ?_
        rintro e w10 ⟨b4,R10,rfl,hb4,he10⟩
        have hbe:b3=b4:=by
         have h1:=HB3'.out
         cases b3 <;> cases b4 <;> simp_all
        subst hbe
        have HE10:=Lib.hid (HE9.out.trans he10)
        have HP10:=Lib.hid (he10.map HP9.out)
        obtain⟨x0,x1,x2,-⟩:=HX.out _ _ HE10.out
        have HSn:=Lib.hid (sright_any R10 _ HE10.out.inv p s r HP10.out HT.out HR.out none 0 0 [] (OwnI.nil R10 0 3 w10).free rfl (by omega))
        clear he10 hb4 HRy HB3'
        go_simp
        refine hK.out _ _ ⟨x0,x1,x2⟩ (fun hHeld5=>?_)
        clear hHeld4
        try simp only[Act.put,rd]
        refine tk 14 (v:=(.bool true)) ?gt25 ?_
        case gt25=>(intro w' ⟨s0,s1,s2⟩;go_simp;try with_reducible rfl)
        try simp only[Act.put,rd]
        refine tk 15 (v:=(.bool true)) ?gt26 ?_
        case gt26=>(intro w' ⟨s0,s1,s2⟩;go_simp;try with_reducible rfl)
        try simp only[Act.put,rd]
        refine tk 16 (v:=(.bool true)) ?gt27 ?_
        case gt27=>(intro w' ⟨s0,s1,s2⟩;go_simp;try with_reducible rfl)
        try simp only[Act.put,rd]
        refine tk 17 (v:=?ft28) ?gt28 ?_
        case gt28=>(intro w' ⟨s0,s1,s2⟩;go_simp;try with_reducible rfl)
        try simp only[Act.put,rd]
        refine nx 18 fun K hK=>?_
        go_simp
        refine HSn.out.mono ?_
        rintro e w11 ⟨b5,R11,rfl,hb5,he11⟩
        have hb5f:b5=false:=by
         cases b5
         ·rfl
         ·have h1:=(hb5.1 rfl).1
          rw[HVs.out] at h1
          simp at h1
          omega
        subst hb5f
        have HE11:=Lib.hid (HE10.out.trans he11)
        obtain⟨x0,x1,x2,-⟩:=HX.out _ _ HE11.out
        clear he11 hb5 HSn
        go_simp
        refine hK.out _ _ ⟨x0,x1,x2⟩ (fun hHeld6=>?_)
        clear hHeld5
        try simp only[Act.put,rd]
        refine tk 19 (v:=(.bool true)) ?gt29 ?_
        case gt29=>(intro w' ⟨s0,s1,s2⟩;go_simp;try with_reducible rfl)
        try simp only[Act.put,rd]
        refine tk 20 (v:=(.bool true)) ?gt30 ?_
        case gt30=>(intro w' ⟨s0,s1,s2⟩;go_simp;try with_reducible rfl)
        try simp only[Act.put,rd]
        refine tk 21 (v:=(.bool true)) ?gt31 ?_
        case gt31=>(intro w' ⟨s0,s1,s2⟩;go_simp;try with_reducible rfl)
        try simp only[Act.put,rd]
        refine wpAnyH_done (by kernel_rfl) ?_ _
        clear hHeld6
        go_wp2_with fail
        go_ret
        exact⟨rfl,R11,HEa.out.trans HE11.out⟩
end Go.Proofs.Ytgphnkkdmlohlaa
