/- parquetryref14.pick. -/
import Derived.Test.YtgphnkkdmlohlaaGreatDoorZWoodNo12
import Derived.Deep.DeepCutAuto
import Derived.Test.YtgphnkkdmlohlaaGreatDoorZWoodNo11
namespace Go.Proofs.YtgphnkkdmlohlaaGreatDoor
section
open Go.RowKit
set_option linter.unusedVariables false
def pickN (bs:List Nat) (t:Nat):Nat:=if bs.length=0 then 0 else at' bs (t % bs.length)+t / bs.length
set_option maxRecDepth 100000 in
set_option maxHeartbeats 1000000 in
theorem pick_any (R:Reg) (w:World) (hI:Inv R w) (v:Value) (bs:List Nat) (hv:FreeB R w v bs) (t:Nat) (ht:t≤100000):
  Calls Tryz.prog 28 #[v,.int .i64 (t:Int)] w (RetE R w (.int .i64 ((pickN bs t:Nat):Int))):=by
 have HI:=Lib.hid hI
 obtain⟨a0,c0,rfl,hl,hcell⟩:=hv
 have hres:pickN bs t=if bs.length=0 then 0 else at' bs (t % bs.length)+t / bs.length:=rfl
 obtain⟨B,hB⟩:∃ B,pickN bs t=B:=⟨_,rfl⟩
 rw[hB] at hres ⊢
 by_cases hb0:bs.length=0
 ·rw[if_pos hb0] at hres
  subst hres
  have hbn:((bs.length:Int) == 0)=true:=by rw[hb0];rfl
  have HBn:=Lib.hid hb0
  clear hcell hI hb0
  go_enter Tryz.func28,Tryz.ntmps28
  go_wp2_with fail
  go_ret
  exact⟨rfl,Ev.refl HI.out⟩
 ·rw[if_neg hb0] at hres
  have hbn:((bs.length:Int) == 0)=false:=beq_eq_false_iff_ne.2 (by omega)
  obtain⟨bS,oS,rfl,_,hc,hc255⟩:=hcell (t % bs.length) (Nat.mod_lt _ (by omega))
  obtain⟨im,him⟩:∃ x,t % bs.length=x:=⟨_,rfl⟩
  have himl:im<bs.length:=by rw[←him];exact Nat.mod_lt _ (by omega)
  obtain⟨iq,hiq⟩:∃ x,t / bs.length=x:=⟨_,rfl⟩
  obtain⟨y,hy⟩:∃ x,at' bs im=x:=⟨_,rfl⟩
  rw[him,hiq] at hres
  rw[him] at hc hc255
  rw[hy] at hres hc hc255
  have hiq2:iq≤100000:=by rw[←hiq];exact Nat.le_trans (Nat.div_le_self _ _) (by omega)
  have e1:(t:Int) % (bs.length:Int)=(im:Int):=by rw[←him];simp
  have e2:(t:Int) / (bs.length:Int)=(iq:Int):=by rw[←hiq];simp
  have e4:IntKind.i64.wrap ((y:Int)+(iq:Int))=(B:Int):=by rw[show (y:Int)+(iq:Int)=(B:Int) by omega];exact IntWalk.i64_in _ (by omega)
  have hz1:(bs.length:Int)≠0:=by omega
  have himr:(im:Int)<(bs.length:Int):=by omega
  clear him hiq hy hres hb0 hcell hI
  go_enter Tryz.func28,Tryz.ntmps28
  go_upto_region 3 with fail
  go_region
  go_wp2_with fail
  go_ret
  exact⟨rfl,(Ev.refl HI.out).drew⟩
end
section
open Go.RowKit
set_option linter.unusedVariables false
def anyB (bs:List Nat) (i:Nat):Nat:=if bs.length=0 then 0 else at' bs (i % bs.length) / (1+i / bs.length % 5)
def anyStep (p:Nat) (bs:List Nat) (s:List Int × Nat × Nat) (i:Nat):List Int × Nat × Nat:=
 if (s.2.1+s.2.2<2*p-i∧anyB bs i % 2=0)∨s.2.1+s.2.2=0 then
  if anyB bs i / 2 % 2=0 then (s.1 ++ [0],s.2.1+1,s.2.2) else (s.1 ++ [2],s.2.1,s.2.2+1)
 else if 0<s.2.1∧(anyB bs i / 4 % 2=0∨s.2.2=0) then (s.1 ++ [1],s.2.1-1,s.2.2) else (s.1 ++ [3],s.2.1,s.2.2-1)
def anyS (p:Nat) (bs:List Nat):Nat→List Int × Nat × Nat
 | 0=>([],0,0)
 | i+1=>anyStep p bs (anyS p bs i) i
def anyW (p:Nat) (bs:List Nat):List Int:=(anyS p bs (2*p)).1
structure AnyI (p i:Nat) (s:List Int × Nat × Nat):Prop where
 len:s.1.length=i
 le:s.2.1+s.2.2≤2*p-i
 par:(s.2.1+s.2.2) % 2=i % 2
theorem anyB_le {bs:List Nat} (hb:∀ i,i<bs.length→at' bs i≤255) (i:Nat):anyB bs i≤255:=by
 unfold anyB
 split
 ·omega
 ·rename_i h
  have:=hb (i % bs.length) (Nat.mod_lt _ (by omega))
  exact Nat.le_trans (Nat.div_le_self _ _) this
theorem AnyI.step {p i:Nat} {bs:List Nat} {s:List Int × Nat × Nat} (h:AnyI p i s) (hi:i<2*p):AnyI p (i+1) (anyStep p bs s i):=by
 obtain⟨h1,h2,h3⟩:=h
 unfold anyStep
 split
 ·rename_i hc
  split
  ·exact⟨by simp[h1],by show s.2.1+1+s.2.2≤_;omega,by show (s.2.1+1+s.2.2) % 2=_;omega⟩
  ·exact⟨by simp[h1],by show s.2.1+(s.2.2+1)≤_;omega,by show (s.2.1+(s.2.2+1)) % 2=_;omega⟩
 ·rename_i hc
  split
  ·rename_i hd
   exact⟨by simp[h1],by show s.2.1-1+s.2.2≤_;omega,by show (s.2.1-1+s.2.2) % 2=_;omega⟩
  ·rename_i hd
   have he:0<s.2.2:=by omega
   exact⟨by simp[h1],by show s.2.1+(s.2.2-1)≤_;omega,by show (s.2.1+(s.2.2-1)) % 2=_;omega⟩
theorem anyS_inv (p:Nat) (bs:List Nat):∀ i,i≤2*p→AnyI p i (anyS p bs i)
 | 0,_=>⟨rfl,by show 0+0≤_;omega,rfl⟩
 | i+1,h=>(anyS_inv p bs i (by omega)).step (by omega)
theorem anyW_length (p:Nat) (bs:List Nat):(anyW p bs).length=2*p:=(anyS_inv p bs _ (Nat.le_refl _)).len
set_option maxRecDepth 100000 in
set_option maxHeartbeats 8000000 in
theorem r4any_any (R:Reg) (w:World) (hI:Inv R w) (p:Nat) (hp:p≤1000) (v:Value) (bs:List Nat) (hv:FreeB R w v bs):
  Calls Tryz.prog 50 #[.int .i64 (p:Int),v] w (RetOwn R w (anyW p bs)):=by
 have HV:=Lib.hid hv
 have hbb:∀ i,i<bs.length→at' bs i≤255:=by
  obtain⟨a,c,rfl,hl,hh⟩:=hv
  exact fun i hi=>by obtain⟨_,_,_,_,_,h⟩:=hh i hi;exact h
 have HBb:=Lib.hid (anyB_le hbb)
 have hsl:∃ a c,v=.slice a bs.length c:=by obtain⟨a,c,rfl,_⟩:=hv;exact⟨a,c,rfl⟩
 obtain⟨a0,c0,rfl⟩:=hsl
 have HI:=Lib.hid hI
 have hbl:bs.length≤maxLen:=by obtain⟨_,_,_,h,_⟩:=hv;exact h
 obtain⟨P,hP⟩:∃ P,2*p=P:=⟨_,rfl⟩
 have hP2:P≤2000:=by omega
 have hwp:IntKind.i64.wrap (2*(p:Int))=(P:Int):=by rw[show 2*(p:Int)=(P:Int) by omega];exact IntWalk.i64_in _ (by omega)
 have HW:Hid (anyW p bs=(anyS p bs P).1):=Lib.hid (by unfold anyW;rw[hP])
 have HInv:=Lib.hid (fun i (hi:i≤P)=>anyS_inv p bs i (by omega))
 have HPe:=Lib.hid hP
 clear hI hv hbb hP
 go_enter Tryz.func50,Tryz.ntmps50
 go_wp2_with fail
 go_loopg [5,6,7,8] P (fun g v5 v6 v7 v8 wr=>∃ (i r e:Nat) (L:List Int) (a5:Option Addr) (l5 c5:Nat),i≤P∧P-i≤g∧v8=.int .i64 (i:Int)∧v6=.int .i64 (r:Int)∧v7=.int .i64 (e:Int)∧v5=.slice a5 l5 c5∧anyS p bs i=(L,r,e)∧Ev R w R wr∧OwnI R w.heap.size 3 wr (.slice a5 l5 c5) L)
 case atStart=>exact⟨0,0,0,[],none,0,0,by omega,by omega,rfl,rfl,rfl,rfl,rfl,Ev.refl HI.out,OwnI.nil _ _ _ _⟩
 case round=>
  obtain⟨i,r,e,L,a5,l5,c5,hi,hg,rfl,rfl,rfl,rfl,hS,hev,hown⟩:=hrel
  have HS:=Lib.hid hS
  have HE:=Lib.hid hev
  have HO:=Lib.hid hown
  have hinv:=HInv.out i hi
  rw[hS] at hinv
  obtain⟨q1,q2,q3⟩:=hinv
  have q2:r+e≤2*p-i:=q2
  have q3:(r+e) % 2=i % 2:=q3
  have hPe:=HPe.out
  by_cases hiP:i<P
  ·have hL:L.length=i:=q1
   have HL:=Lib.hid hL
   have hst:anyS p bs (i+1)=anyStep p bs (L,r,e) i:=by show anyStep p bs (anyS p bs i) i=_;rw[hS]
   unfold anyStep at hst
   simp only at hst
   obtain⟨b,hb⟩:∃ b,anyB bs i=b:=⟨_,rfl⟩
   have hb255:=HBb.out i
   rw[hb] at hst hb255
   obtain⟨lf,hlf⟩:∃ x,2*p-i=x:=⟨_,rfl⟩
   rw[hlf] at hst q2
   have hwl:IntKind.i64.wrap ((P:Int)-(i:Int))=(lf:Int):=by rw[show (P:Int)-(i:Int)=(lf:Int) by omega];exact IntWalk.i64_in _ (by omega)
   obtain⟨re,hre⟩:∃ x,r+e=x:=⟨_,rfl⟩
   rw[hre] at hst q2 q3
   have hwre:IntKind.i64.wrap ((r:Int)+(e:Int))=(re:Int):=by rw[show (r:Int)+(e:Int)=(re:Int) by omega];exact IntWalk.i64_in _ (by omega)
   have hre2:re≤2000:=by omega
   have hr2:r≤2000:=by omega
   have he2:e≤2000:=by omega
   have hlz:re=0→re<lf:=by omega
   have hez:0<re→r=0→0<e:=by omega
   have HSt:=Lib.hid hst
   have HB:=Lib.hid hb
   have HRe:=Lib.hid hre
   have HLz:=Lib.hid hlz
   have HEz:=Lib.hid hez
   have hiP':(i:Int)<(P:Int):=by omega
   clear hst hb hre hlz hez q1 q2 q3 hS hev hown hL hlf hPe
   go_upto_if 19 with fail
   go_cut [9] (fun s9 wx=>s9=.int .u8 (b:Int)∧∃ nq,wx=wr.drewN nq)
   case first=>
    by_cases hb0:bs.length=0
    ·have hb:=HB.out
     unfold anyB at hb
     rw[if_pos hb0] at hb
     subst hb
     have hbn:¬ (0:Int)<(bs.length:Int):=by omega
     clear hb0
     go_wp2_with fail
     go_meet
     exact⟨rfl,0,rfl⟩
    ·have hb:=HB.out
     unfold anyB at hb
     rw[if_neg hb0] at hb
     have hbp:(0:Int)<(bs.length:Int):=by omega
     obtain⟨a',c',e',_,hcell⟩:=(HV.out.ev HE.out)
     cases e'
     obtain⟨bS,oS,rfl,_,hc,hc255⟩:=hcell (i % bs.length) (Nat.mod_lt _ (by omega))
     obtain⟨im,him⟩:∃ x,i % bs.length=x:=⟨_,rfl⟩
     have himl:im<bs.length:=by rw[←him];exact Nat.mod_lt _ (by omega)
     obtain⟨iq,hiq⟩:∃ x,i / bs.length=x:=⟨_,rfl⟩
     obtain⟨y,hy⟩:∃ x,at' bs im=x:=⟨_,rfl⟩
     rw[him,hiq] at hb
     rw[him] at hc hc255
     rw[hy] at hb hc hc255
     have hiq2:iq≤2000:=by rw[←hiq];exact Nat.le_trans (Nat.div_le_self _ _) (by omega)
     have e1:(i:Int) % (bs.length:Int)=(im:Int):=by rw[←him];simp
     have e2:(i:Int) / (bs.length:Int)=(iq:Int):=by rw[←hiq];simp
     obtain⟨q5,hq5⟩:∃ x,iq % 5=x:=⟨_,rfl⟩
     have e3:(iq:Int) % 5=(q5:Int):=by omega
     have hq54:q5≤4:=by omega
     rw[hq5] at hb
     obtain⟨q6,hq6⟩:∃ x,1+q5=x:=⟨_,rfl⟩
     rw[hq6] at hb
     have e4:IntKind.i64.wrap (1+(q5:Int))=(q6:Int):=by rw[show 1+(q5:Int)=(q6:Int) by omega];exact IntWalk.i64_in _ (by omega)
     have e5:IntKind.u8.wrap (q6:Int)=(q6:Int):=IntWalk.u8_in _ (by omega)
     have hz1:(bs.length:Int)≠0:=by omega
     have hz2:(q6:Int)≠0:=by omega
     have e6:(y:Int) / (q6:Int)=(b:Int):=by rw[←hb];simp
     have e7:IntKind.u8.wrap (b:Int)=(b:Int):=IntWalk.u8_in _ (by omega)
     have himr:(im:Int)<(bs.length:Int):=by omega
     clear him hiq hy hq5 hq6 hb hb0
     go_upto_region 8 with fail
     go_region
     go_wp2_with fail
     go_meet
     exact⟨rfl,1,rfl⟩
   case rest=>
    obtain⟨rfl,nq,rfl⟩:=hcut
    obtain⟨w2,hw2⟩:∃ x,x=wr.drewN nq:=⟨_,rfl⟩
    have HE2:Hid (Ev R w R w2):=Lib.hid (by rw[hw2];exact HE.out.drewN nq)
    have HO2:Hid (OwnI R w.heap.size 3 w2 (.slice a5 l5 c5) L):=Lib.hid (by rw[hw2];exact HO.out)
    rw[←hw2]
    clear hw2 HE HO
    have hll:L.length≤2000:=by have:=HL.out;omega
    have HLl:=Lib.hid hll
    clear hll
    have hmod:(b:Int) % 2=((b % 2:Nat):Int):=by omega
    obtain⟨bm,hbm⟩:∃ x,b % 2=x:=⟨_,rfl⟩
    rw[hbm] at hmod
    by_cases hlt:re<lf
    ·have hlti:(re:Int)<(lf:Int):=by omega
     by_cases hb2:bm=0
     ·subst hb2
      simp only[show ((0:Nat):Int)=0 from rfl] at hmod
      obtain⟨bh,hbh⟩:∃ x,b / 2=x:=⟨_,rfl⟩
      have hq1:(b:Int) / 2=(bh:Int):=by omega
      have hq2:IntKind.u8.wrap (bh:Int)=(bh:Int):=IntWalk.u8_in _ (by omega)
      by_cases hh:bh % 2=0
      ·have hq3:(bh:Int) % 2=0:=by omega
       have hst:=HSt.out
       rw[if_pos (Or.inl ⟨hlt,hbm⟩)] at hst
       rw[hbh] at hst
       rw[if_pos hh] at hst
       obtain⟨x1,hx1⟩:∃ x,r+1=x:=⟨_,rfl⟩
       have hwx:IntKind.i64.wrap ((r:Int)+1)=(x1:Int):=by rw[show (r:Int)+1=(x1:Int) by omega];exact IntWalk.i64_in _ (by omega)
       rw[hx1] at hst
       have HSx:=Lib.hid hst
       have HOa:=Lib.hid (HO2.out.alloc (.cells #[.int .i64 0] 3))
       have HEa:=Lib.hid (HE2.out.alloc (.cells #[.int .i64 0] 3))
       clear hst hx1
       try clear he0
       try clear hz
       try clear hh
       try clear hbh
       try clear hbm
       try clear hep
       try clear hr0
       try clear hlt
       go_wp2_with (at_builtin;refine wpList_app_ints (R:=R) (B:=w.heap.size) rfl _ _ rfl HOa.out rfl ⟨w2.heap.size,0,none⟩ 1 1 [(0:Int)] rfl ?k1_0 ?k1_1 ?k1_2 ?k1_3 ?k1_4 ?_)
       try (case k1_0=>first|rfl|simp)
       case k1_1=>first|(intro j hj;match j,hj with|0,_=>simp[Addr.add,nth])|rfl|simp[nth]
       case k1_2=>have:=HLl.out;omega
       case k1_3=>have:=HE2.out.size;first|omega|(simp;omega)
       case k1_4=>exact fun q hq=>HEa.out.inv.none_of_ge (by simp at hq ⊢;omega)
       intro v8 w5 ho5 hg5 hs5
       obtain⟨a8,c8,rfl,_⟩:=ho5.ints.open
       have HE5:=Lib.hid (HEa.out.app HOa.out (Nat.le_refl _) hg5)
       have HO5:=Lib.hid ho5
       clear ho5 hg5 hs5 HOa HEa
       go_wp2_with fail
       go_roundg (P-(i+1))
       case measure=>omega
       case rel=>exact⟨i+1,x1,e,L ++ [0],a8,_,c8,by omega,by omega,by go_num,rfl,rfl,rfl,HSx.out,HE5.out,HO5.out⟩
      ·have hq3:(bh:Int) % 2=1:=by omega
       have hst:=HSt.out
       rw[if_pos (Or.inl ⟨hlt,hbm⟩)] at hst
       rw[hbh] at hst
       rw[if_neg hh] at hst
       obtain⟨x1,hx1⟩:∃ x,e+1=x:=⟨_,rfl⟩
       have hwx:IntKind.i64.wrap ((e:Int)+1)=(x1:Int):=by rw[show (e:Int)+1=(x1:Int) by omega];exact IntWalk.i64_in _ (by omega)
       rw[hx1] at hst
       have HSx:=Lib.hid hst
       have HOa:=Lib.hid (HO2.out.alloc (.cells #[.int .i64 2] 3))
       have HEa:=Lib.hid (HE2.out.alloc (.cells #[.int .i64 2] 3))
       clear hst hx1
       try clear he0
       try clear hz
       try clear hh
       try clear hbh
       try clear hbm
       try clear hep
       try clear hr0
       try clear hlt
       go_wp2_with (at_builtin;refine wpList_app_ints (R:=R) (B:=w.heap.size) rfl _ _ rfl HOa.out rfl ⟨w2.heap.size,0,none⟩ 1 1 [(2:Int)] rfl ?k2_0 ?k2_1 ?k2_2 ?k2_3 ?k2_4 ?_)
       try (case k2_0=>first|rfl|simp)
       case k2_1=>first|(intro j hj;match j,hj with|0,_=>simp[Addr.add,nth])|rfl|simp[nth]
       case k2_2=>have:=HLl.out;omega
       case k2_3=>have:=HE2.out.size;first|omega|(simp;omega)
       case k2_4=>exact fun q hq=>HEa.out.inv.none_of_ge (by simp at hq ⊢;omega)
       intro v8 w5 ho5 hg5 hs5
       obtain⟨a8,c8,rfl,_⟩:=ho5.ints.open
       have HE5:=Lib.hid (HEa.out.app HOa.out (Nat.le_refl _) hg5)
       have HO5:=Lib.hid ho5
       clear ho5 hg5 hs5 HOa HEa
       go_wp2_with fail
       go_roundg (P-(i+1))
       case measure=>omega
       case rel=>exact⟨i+1,r,x1,L ++ [2],a8,_,c8,by omega,by omega,by go_num,rfl,rfl,rfl,HSx.out,HE5.out,HO5.out⟩
     ·have hbm1:bm=1:=by omega
      subst hbm1
      simp only[show ((1:Nat):Int)=1 from rfl] at hmod
      by_cases hz:re=0
      ·have hzi:((re:Int) == 0)=true:=by simp[hz]
       obtain⟨bh,hbh⟩:∃ x,b / 2=x:=⟨_,rfl⟩
       have hq1:(b:Int) / 2=(bh:Int):=by omega
       have hq2:IntKind.u8.wrap (bh:Int)=(bh:Int):=IntWalk.u8_in _ (by omega)
       by_cases hh:bh % 2=0
       ·have hq3:(bh:Int) % 2=0:=by omega
        have hst:=HSt.out
        rw[if_pos (Or.inr hz)] at hst
        rw[hbh] at hst
        rw[if_pos hh] at hst
        obtain⟨x1,hx1⟩:∃ x,r+1=x:=⟨_,rfl⟩
        have hwx:IntKind.i64.wrap ((r:Int)+1)=(x1:Int):=by rw[show (r:Int)+1=(x1:Int) by omega];exact IntWalk.i64_in _ (by omega)
        rw[hx1] at hst
        have HSx:=Lib.hid hst
        have HOa:=Lib.hid (HO2.out.alloc (.cells #[.int .i64 0] 3))
        have HEa:=Lib.hid (HE2.out.alloc (.cells #[.int .i64 0] 3))
        clear hst hx1
        try clear he0
        try clear hz
        try clear hh
        try clear hbh
        try clear hbm
        try clear hep
        try clear hr0
        try clear hlt
        go_wp2_with (at_builtin;refine wpList_app_ints (R:=R) (B:=w.heap.size) rfl _ _ rfl HOa.out rfl ⟨w2.heap.size,0,none⟩ 1 1 [(0:Int)] rfl ?k3_0 ?k3_1 ?k3_2 ?k3_3 ?k3_4 ?_)
        try (case k3_0=>first|rfl|simp)
        case k3_1=>first|(intro j hj;match j,hj with|0,_=>simp[Addr.add,nth])|rfl|simp[nth]
        case k3_2=>have:=HLl.out;omega
        case k3_3=>have:=HE2.out.size;first|omega|(simp;omega)
        case k3_4=>exact fun q hq=>HEa.out.inv.none_of_ge (by simp at hq ⊢;omega)
        intro v8 w5 ho5 hg5 hs5
        obtain⟨a8,c8,rfl,_⟩:=ho5.ints.open
        have HE5:=Lib.hid (HEa.out.app HOa.out (Nat.le_refl _) hg5)
        have HO5:=Lib.hid ho5
        clear ho5 hg5 hs5 HOa HEa
        go_wp2_with fail
        go_roundg (P-(i+1))
        case measure=>omega
        case rel=>exact⟨i+1,x1,e,L ++ [0],a8,_,c8,by omega,by omega,by go_num,rfl,rfl,rfl,HSx.out,HE5.out,HO5.out⟩
       ·have hq3:(bh:Int) % 2=1:=by omega
        have hst:=HSt.out
        rw[if_pos (Or.inr hz)] at hst
        rw[hbh] at hst
        rw[if_neg hh] at hst
        obtain⟨x1,hx1⟩:∃ x,e+1=x:=⟨_,rfl⟩
        have hwx:IntKind.i64.wrap ((e:Int)+1)=(x1:Int):=by rw[show (e:Int)+1=(x1:Int) by omega];exact IntWalk.i64_in _ (by omega)
        rw[hx1] at hst
        have HSx:=Lib.hid hst
        have HOa:=Lib.hid (HO2.out.alloc (.cells #[.int .i64 2] 3))
        have HEa:=Lib.hid (HE2.out.alloc (.cells #[.int .i64 2] 3))
        clear hst hx1
        try clear he0
        try clear hz
        try clear hh
        try clear hbh
        try clear hbm
        try clear hep
        try clear hr0
        try clear hlt
        go_wp2_with (at_builtin;refine wpList_app_ints (R:=R) (B:=w.heap.size) rfl _ _ rfl HOa.out rfl ⟨w2.heap.size,0,none⟩ 1 1 [(2:Int)] rfl ?k4_0 ?k4_1 ?k4_2 ?k4_3 ?k4_4 ?_)
        try (case k4_0=>first|rfl|simp)
        case k4_1=>first|(intro j hj;match j,hj with|0,_=>simp[Addr.add,nth])|rfl|simp[nth]
        case k4_2=>have:=HLl.out;omega
        case k4_3=>have:=HE2.out.size;first|omega|(simp;omega)
        case k4_4=>exact fun q hq=>HEa.out.inv.none_of_ge (by simp at hq ⊢;omega)
        intro v8 w5 ho5 hg5 hs5
        obtain⟨a8,c8,rfl,_⟩:=ho5.ints.open
        have HE5:=Lib.hid (HEa.out.app HOa.out (Nat.le_refl _) hg5)
        have HO5:=Lib.hid ho5
        clear ho5 hg5 hs5 HOa HEa
        go_wp2_with fail
        go_roundg (P-(i+1))
        case measure=>omega
        case rel=>exact⟨i+1,r,x1,L ++ [2],a8,_,c8,by omega,by omega,by go_num,rfl,rfl,rfl,HSx.out,HE5.out,HO5.out⟩
      ·have hzi:((re:Int) == 0)=false:=beq_eq_false_iff_ne.2 (by omega)
       obtain⟨bh,hbh⟩:∃ x,b / 4=x:=⟨_,rfl⟩
       have hq1:(b:Int) / 4=(bh:Int):=by omega
       have hq2:IntKind.u8.wrap (bh:Int)=(bh:Int):=IntWalk.u8_in _ (by omega)
       by_cases hr0:0<r
       ·have hr0i:(0:Int)<(r:Int):=by omega
        by_cases hh:bh % 2=0
        ·have hq3:(bh:Int) % 2=0:=by omega
         have hst:=HSt.out
         rw[if_neg (fun h=>h.elim (fun h=>by omega) hz)] at hst
         rw[hbh] at hst
         rw[if_pos ⟨hr0,Or.inl hh⟩] at hst
         obtain⟨x1,hx1⟩:∃ x,r-1=x:=⟨_,rfl⟩
         have hwx:IntKind.i64.wrap ((r:Int)-1)=(x1:Int):=by rw[show (r:Int)-1=(x1:Int) by omega];exact IntWalk.i64_in _ (by omega)
         rw[hx1] at hst
         have HSx:=Lib.hid hst
         have HOa:=Lib.hid (HO2.out.alloc (.cells #[.int .i64 1] 3))
         have HEa:=Lib.hid (HE2.out.alloc (.cells #[.int .i64 1] 3))
         clear hst hx1
         try clear he0
         try clear hz
         try clear hh
         try clear hbh
         try clear hbm
         try clear hep
         try clear hr0
         try clear hlt
         go_wp2_with (at_builtin;refine wpList_app_ints (R:=R) (B:=w.heap.size) rfl _ _ rfl HOa.out rfl ⟨w2.heap.size,0,none⟩ 1 1 [(1:Int)] rfl ?k5_0 ?k5_1 ?k5_2 ?k5_3 ?k5_4 ?_)
         try (case k5_0=>first|rfl|simp)
         case k5_1=>first|(intro j hj;match j,hj with|0,_=>simp[Addr.add,nth])|rfl|simp[nth]
         case k5_2=>have:=HLl.out;omega
         case k5_3=>have:=HE2.out.size;first|omega|(simp;omega)
         case k5_4=>exact fun q hq=>HEa.out.inv.none_of_ge (by simp at hq ⊢;omega)
         intro v8 w5 ho5 hg5 hs5
         obtain⟨a8,c8,rfl,_⟩:=ho5.ints.open
         have HE5:=Lib.hid (HEa.out.app HOa.out (Nat.le_refl _) hg5)
         have HO5:=Lib.hid ho5
         clear ho5 hg5 hs5 HOa HEa
         go_wp2_with fail
         go_roundg (P-(i+1))
         case measure=>omega
         case rel=>exact⟨i+1,x1,e,L ++ [1],a8,_,c8,by omega,by omega,by go_num,rfl,rfl,rfl,HSx.out,HE5.out,HO5.out⟩
        ·have hq3:(bh:Int) % 2=1:=by omega
         by_cases he0:e=0
         ·have he0i:((e:Int) == 0)=true:=by simp[he0]
          have hst:=HSt.out
          rw[if_neg (fun h=>h.elim (fun h=>by omega) hz)] at hst
          rw[hbh] at hst
          rw[if_pos ⟨hr0,Or.inr he0⟩] at hst
          obtain⟨x1,hx1⟩:∃ x,r-1=x:=⟨_,rfl⟩
          have hwx:IntKind.i64.wrap ((r:Int)-1)=(x1:Int):=by rw[show (r:Int)-1=(x1:Int) by omega];exact IntWalk.i64_in _ (by omega)
          rw[hx1] at hst
          have HSx:=Lib.hid hst
          have HOa:=Lib.hid (HO2.out.alloc (.cells #[.int .i64 1] 3))
          have HEa:=Lib.hid (HE2.out.alloc (.cells #[.int .i64 1] 3))
          clear hst hx1
          try clear he0
          try clear hz
          try clear hh
          try clear hbh
          try clear hbm
          try clear hep
          try clear hr0
          try clear hlt
          go_wp2_with (at_builtin;refine wpList_app_ints (R:=R) (B:=w.heap.size) rfl _ _ rfl HOa.out rfl ⟨w2.heap.size,0,none⟩ 1 1 [(1:Int)] rfl ?k6_0 ?k6_1 ?k6_2 ?k6_3 ?k6_4 ?_)
          try (case k6_0=>first|rfl|simp)
          case k6_1=>first|(intro j hj;match j,hj with|0,_=>simp[Addr.add,nth])|rfl|simp[nth]
          case k6_2=>have:=HLl.out;omega
          case k6_3=>have:=HE2.out.size;first|omega|(simp;omega)
          case k6_4=>exact fun q hq=>HEa.out.inv.none_of_ge (by simp at hq ⊢;omega)
          intro v8 w5 ho5 hg5 hs5
          obtain⟨a8,c8,rfl,_⟩:=ho5.ints.open
          have HE5:=Lib.hid (HEa.out.app HOa.out (Nat.le_refl _) hg5)
          have HO5:=Lib.hid ho5
          clear ho5 hg5 hs5 HOa HEa
          go_wp2_with fail
          go_roundg (P-(i+1))
          case measure=>omega
          case rel=>exact⟨i+1,x1,e,L ++ [1],a8,_,c8,by omega,by omega,by go_num,rfl,rfl,rfl,HSx.out,HE5.out,HO5.out⟩
         ·have he0i:((e:Int) == 0)=false:=beq_eq_false_iff_ne.2 (by omega)
          have hst:=HSt.out
          rw[if_neg (fun h=>h.elim (fun h=>by omega) hz)] at hst
          rw[hbh] at hst
          rw[if_neg (fun h=>h.2.elim hh he0)] at hst
          obtain⟨x1,hx1⟩:∃ x,e-1=x:=⟨_,rfl⟩
          have hwx:IntKind.i64.wrap ((e:Int)-1)=(x1:Int):=by rw[show (e:Int)-1=(x1:Int) by omega];exact IntWalk.i64_in _ (by omega)
          rw[hx1] at hst
          have HSx:=Lib.hid hst
          have HOa:=Lib.hid (HO2.out.alloc (.cells #[.int .i64 3] 3))
          have HEa:=Lib.hid (HE2.out.alloc (.cells #[.int .i64 3] 3))
          clear hst hx1
          try clear he0
          try clear hz
          try clear hh
          try clear hbh
          try clear hbm
          try clear hep
          try clear hr0
          try clear hlt
          go_wp2_with (at_builtin;refine wpList_app_ints (R:=R) (B:=w.heap.size) rfl _ _ rfl HOa.out rfl ⟨w2.heap.size,0,none⟩ 1 1 [(3:Int)] rfl ?k7_0 ?k7_1 ?k7_2 ?k7_3 ?k7_4 ?_)
          try (case k7_0=>first|rfl|simp)
          case k7_1=>first|(intro j hj;match j,hj with|0,_=>simp[Addr.add,nth])|rfl|simp[nth]
          case k7_2=>have:=HLl.out;omega
          case k7_3=>have:=HE2.out.size;first|omega|(simp;omega)
          case k7_4=>exact fun q hq=>HEa.out.inv.none_of_ge (by simp at hq ⊢;omega)
          intro v8 w5 ho5 hg5 hs5
          obtain⟨a8,c8,rfl,_⟩:=ho5.ints.open
          have HE5:=Lib.hid (HEa.out.app HOa.out (Nat.le_refl _) hg5)
          have HO5:=Lib.hid ho5
          clear ho5 hg5 hs5 HOa HEa
          go_wp2_with fail
          go_roundg (P-(i+1))
          case measure=>omega
          case rel=>exact⟨i+1,r,x1,L ++ [3],a8,_,c8,by omega,by omega,by go_num,rfl,rfl,rfl,HSx.out,HE5.out,HO5.out⟩
       ·have hr0i:¬ (0:Int)<(r:Int):=by omega
        have hep:0<e:=HEz.out (by omega) (by omega)
        have hst:=HSt.out
        rw[if_neg (fun h=>h.elim (fun h=>by omega) hz)] at hst
        rw[hbh] at hst
        rw[if_neg (fun h=>hr0 h.1)] at hst
        obtain⟨x1,hx1⟩:∃ x,e-1=x:=⟨_,rfl⟩
        have hwx:IntKind.i64.wrap ((e:Int)-1)=(x1:Int):=by rw[show (e:Int)-1=(x1:Int) by omega];exact IntWalk.i64_in _ (by omega)
        rw[hx1] at hst
        have HSx:=Lib.hid hst
        have HOa:=Lib.hid (HO2.out.alloc (.cells #[.int .i64 3] 3))
        have HEa:=Lib.hid (HE2.out.alloc (.cells #[.int .i64 3] 3))
        clear hst hx1
        try clear he0
        try clear hz
        try clear hh
        try clear hbh
        try clear hbm
        try clear hep
        try clear hr0
        try clear hlt
        go_wp2_with (at_builtin;refine wpList_app_ints (R:=R) (B:=w.heap.size) rfl _ _ rfl HOa.out rfl ⟨w2.heap.size,0,none⟩ 1 1 [(3:Int)] rfl ?k8_0 ?k8_1 ?k8_2 ?k8_3 ?k8_4 ?_)
        try (case k8_0=>first|rfl|simp)
        case k8_1=>first|(intro j hj;match j,hj with|0,_=>simp[Addr.add,nth])|rfl|simp[nth]
        case k8_2=>have:=HLl.out;omega
        case k8_3=>have:=HE2.out.size;first|omega|(simp;omega)
        case k8_4=>exact fun q hq=>HEa.out.inv.none_of_ge (by simp at hq ⊢;omega)
        intro v8 w5 ho5 hg5 hs5
        obtain⟨a8,c8,rfl,_⟩:=ho5.ints.open
        have HE5:=Lib.hid (HEa.out.app HOa.out (Nat.le_refl _) hg5)
        have HO5:=Lib.hid ho5
        clear ho5 hg5 hs5 HOa HEa
        go_wp2_with fail
        go_roundg (P-(i+1))
        case measure=>omega
        case rel=>exact⟨i+1,r,x1,L ++ [3],a8,_,c8,by omega,by omega,by go_num,rfl,rfl,rfl,HSx.out,HE5.out,HO5.out⟩
    ·have hlti:¬ (re:Int)<(lf:Int):=by omega
     have hz:¬ re=0:=fun h=>hlt (HLz.out h)
     have hzi:((re:Int) == 0)=false:=beq_eq_false_iff_ne.2 (by omega)
     obtain⟨bh,hbh⟩:∃ x,b / 4=x:=⟨_,rfl⟩
     have hq1:(b:Int) / 4=(bh:Int):=by omega
     have hq2:IntKind.u8.wrap (bh:Int)=(bh:Int):=IntWalk.u8_in _ (by omega)
     by_cases hr0:0<r
     ·have hr0i:(0:Int)<(r:Int):=by omega
      by_cases hh:bh % 2=0
      ·have hq3:(bh:Int) % 2=0:=by omega
       have hst:=HSt.out
       rw[if_neg (fun h=>h.elim (fun h=>hlt h.1) hz)] at hst
       rw[hbh] at hst
       rw[if_pos ⟨hr0,Or.inl hh⟩] at hst
       obtain⟨x1,hx1⟩:∃ x,r-1=x:=⟨_,rfl⟩
       have hwx:IntKind.i64.wrap ((r:Int)-1)=(x1:Int):=by rw[show (r:Int)-1=(x1:Int) by omega];exact IntWalk.i64_in _ (by omega)
       rw[hx1] at hst
       have HSx:=Lib.hid hst
       have HOa:=Lib.hid (HO2.out.alloc (.cells #[.int .i64 1] 3))
       have HEa:=Lib.hid (HE2.out.alloc (.cells #[.int .i64 1] 3))
       clear hst hx1
       try clear he0
       try clear hz
       try clear hh
       try clear hbh
       try clear hbm
       try clear hep
       try clear hr0
       try clear hlt
       go_wp2_with (at_builtin;refine wpList_app_ints (R:=R) (B:=w.heap.size) rfl _ _ rfl HOa.out rfl ⟨w2.heap.size,0,none⟩ 1 1 [(1:Int)] rfl ?k9_0 ?k9_1 ?k9_2 ?k9_3 ?k9_4 ?_)
       try (case k9_0=>first|rfl|simp)
       case k9_1=>first|(intro j hj;match j,hj with|0,_=>simp[Addr.add,nth])|rfl|simp[nth]
       case k9_2=>have:=HLl.out;omega
       case k9_3=>have:=HE2.out.size;first|omega|(simp;omega)
       case k9_4=>exact fun q hq=>HEa.out.inv.none_of_ge (by simp at hq ⊢;omega)
       intro v8 w5 ho5 hg5 hs5
       obtain⟨a8,c8,rfl,_⟩:=ho5.ints.open
       have HE5:=Lib.hid (HEa.out.app HOa.out (Nat.le_refl _) hg5)
       have HO5:=Lib.hid ho5
       clear ho5 hg5 hs5 HOa HEa
       go_wp2_with fail
       go_roundg (P-(i+1))
       case measure=>omega
       case rel=>exact⟨i+1,x1,e,L ++ [1],a8,_,c8,by omega,by omega,by go_num,rfl,rfl,rfl,HSx.out,HE5.out,HO5.out⟩
      ·have hq3:(bh:Int) % 2=1:=by omega
       by_cases he0:e=0
       ·have he0i:((e:Int) == 0)=true:=by simp[he0]
        have hst:=HSt.out
        rw[if_neg (fun h=>h.elim (fun h=>hlt h.1) hz)] at hst
        rw[hbh] at hst
        rw[if_pos ⟨hr0,Or.inr he0⟩] at hst
        obtain⟨x1,hx1⟩:∃ x,r-1=x:=⟨_,rfl⟩
        have hwx:IntKind.i64.wrap ((r:Int)-1)=(x1:Int):=by rw[show (r:Int)-1=(x1:Int) by omega];exact IntWalk.i64_in _ (by omega)
        rw[hx1] at hst
        have HSx:=Lib.hid hst
        have HOa:=Lib.hid (HO2.out.alloc (.cells #[.int .i64 1] 3))
        have HEa:=Lib.hid (HE2.out.alloc (.cells #[.int .i64 1] 3))
        clear hst hx1
        try clear he0
        try clear hz
        try clear hh
        try clear hbh
        try clear hbm
        try clear hep
        try clear hr0
        try clear hlt
        go_wp2_with (at_builtin;refine wpList_app_ints (R:=R) (B:=w.heap.size) rfl _ _ rfl HOa.out rfl ⟨w2.heap.size,0,none⟩ 1 1 [(1:Int)] rfl ?k10_0 ?k10_1 ?k10_2 ?k10_3 ?k10_4 ?_)
        try (case k10_0=>first|rfl|simp)
        case k10_1=>first|(intro j hj;match j,hj with|0,_=>simp[Addr.add,nth])|rfl|simp[nth]
        case k10_2=>have:=HLl.out;omega
        case k10_3=>have:=HE2.out.size;first|omega|(simp;omega)
        case k10_4=>exact fun q hq=>HEa.out.inv.none_of_ge (by simp at hq ⊢;omega)
        intro v8 w5 ho5 hg5 hs5
        obtain⟨a8,c8,rfl,_⟩:=ho5.ints.open
        have HE5:=Lib.hid (HEa.out.app HOa.out (Nat.le_refl _) hg5)
        have HO5:=Lib.hid ho5
        clear ho5 hg5 hs5 HOa HEa
        go_wp2_with fail
        go_roundg (P-(i+1))
        case measure=>omega
        case rel=>exact⟨i+1,x1,e,L ++ [1],a8,_,c8,by omega,by omega,by go_num,rfl,rfl,rfl,HSx.out,HE5.out,HO5.out⟩
       ·have he0i:((e:Int) == 0)=false:=beq_eq_false_iff_ne.2 (by omega)
        have hst:=HSt.out
        rw[if_neg (fun h=>h.elim (fun h=>hlt h.1) hz)] at hst
        rw[hbh] at hst
        rw[if_neg (fun h=>h.2.elim hh he0)] at hst
        obtain⟨x1,hx1⟩:∃ x,e-1=x:=⟨_,rfl⟩
        have hwx:IntKind.i64.wrap ((e:Int)-1)=(x1:Int):=by rw[show (e:Int)-1=(x1:Int) by omega];exact IntWalk.i64_in _ (by omega)
        rw[hx1] at hst
        have HSx:=Lib.hid hst
        have HOa:=Lib.hid (HO2.out.alloc (.cells #[.int .i64 3] 3))
        have HEa:=Lib.hid (HE2.out.alloc (.cells #[.int .i64 3] 3))
        clear hst hx1
        try clear he0
        try clear hz
        try clear hh
        try clear hbh
        try clear hbm
        try clear hep
        try clear hr0
        try clear hlt
        go_wp2_with (at_builtin;refine wpList_app_ints (R:=R) (B:=w.heap.size) rfl _ _ rfl HOa.out rfl ⟨w2.heap.size,0,none⟩ 1 1 [(3:Int)] rfl ?k11_0 ?k11_1 ?k11_2 ?k11_3 ?k11_4 ?_)
        try (case k11_0=>first|rfl|simp)
        case k11_1=>first|(intro j hj;match j,hj with|0,_=>simp[Addr.add,nth])|rfl|simp[nth]
        case k11_2=>have:=HLl.out;omega
        case k11_3=>have:=HE2.out.size;first|omega|(simp;omega)
        case k11_4=>exact fun q hq=>HEa.out.inv.none_of_ge (by simp at hq ⊢;omega)
        intro v8 w5 ho5 hg5 hs5
        obtain⟨a8,c8,rfl,_⟩:=ho5.ints.open
        have HE5:=Lib.hid (HEa.out.app HOa.out (Nat.le_refl _) hg5)
        have HO5:=Lib.hid ho5
        clear ho5 hg5 hs5 HOa HEa
        go_wp2_with fail
        go_roundg (P-(i+1))
        case measure=>omega
        case rel=>exact⟨i+1,r,x1,L ++ [3],a8,_,c8,by omega,by omega,by go_num,rfl,rfl,rfl,HSx.out,HE5.out,HO5.out⟩
     ·have hr0i:¬ (0:Int)<(r:Int):=by omega
      have hep:0<e:=HEz.out (by omega) (by omega)
      have hst:=HSt.out
      rw[if_neg (fun h=>h.elim (fun h=>hlt h.1) hz)] at hst
      rw[hbh] at hst
      rw[if_neg (fun h=>hr0 h.1)] at hst
      obtain⟨x1,hx1⟩:∃ x,e-1=x:=⟨_,rfl⟩
      have hwx:IntKind.i64.wrap ((e:Int)-1)=(x1:Int):=by rw[show (e:Int)-1=(x1:Int) by omega];exact IntWalk.i64_in _ (by omega)
      rw[hx1] at hst
      have HSx:=Lib.hid hst
      have HOa:=Lib.hid (HO2.out.alloc (.cells #[.int .i64 3] 3))
      have HEa:=Lib.hid (HE2.out.alloc (.cells #[.int .i64 3] 3))
      clear hst hx1
      try clear he0
      try clear hz
      try clear hh
      try clear hbh
      try clear hbm
      try clear hep
      try clear hr0
      try clear hlt
      go_wp2_with (at_builtin;refine wpList_app_ints (R:=R) (B:=w.heap.size) rfl _ _ rfl HOa.out rfl ⟨w2.heap.size,0,none⟩ 1 1 [(3:Int)] rfl ?k12_0 ?k12_1 ?k12_2 ?k12_3 ?k12_4 ?_)
      try (case k12_0=>first|rfl|simp)
      case k12_1=>first|(intro j hj;match j,hj with|0,_=>simp[Addr.add,nth])|rfl|simp[nth]
      case k12_2=>have:=HLl.out;omega
      case k12_3=>have:=HE2.out.size;first|omega|(simp;omega)
      case k12_4=>exact fun q hq=>HEa.out.inv.none_of_ge (by simp at hq ⊢;omega)
      intro v8 w5 ho5 hg5 hs5
      obtain⟨a8,c8,rfl,_⟩:=ho5.ints.open
      have HE5:=Lib.hid (HEa.out.app HOa.out (Nat.le_refl _) hg5)
      have HO5:=Lib.hid ho5
      clear ho5 hg5 hs5 HOa HEa
      go_wp2_with fail
      go_roundg (P-(i+1))
      case measure=>omega
      case rel=>exact⟨i+1,r,x1,L ++ [3],a8,_,c8,by omega,by omega,by go_num,rfl,rfl,rfl,HSx.out,HE5.out,HO5.out⟩
  ·obtain rfl:i=P:=by omega
   have hres:anyW p bs=L:=by rw[HW.out,hS]
   have HRes:=Lib.hid hres
   have hLl:=q1
   clear hres hS hev hown q1 q2 q3
   go_wp2_with fail
   go_ret
   exact⟨_,rfl,HE.out,by rw[HRes.out];exact HO.out⟩
end
end Go.Proofs.YtgphnkkdmlohlaaGreatDoor
