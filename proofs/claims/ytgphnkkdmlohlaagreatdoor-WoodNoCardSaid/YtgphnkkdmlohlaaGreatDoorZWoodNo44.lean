/- shell.Order, Right: of nil, and of what is no triangulation. -/
import Derived.Test.YtgphnkkdmlohlaaGreatDoorZWoodNo36
import Derived.Test.YtgphnkkdmlohlaaGreatDoorZWoodNo10
import Derived.Test.YtgphnkkdmlohlaaGreatDoorZWoodNo39
import Derived.Test.YtgphnkkdmlohlaaGreatDoorZWoodNo23
import Derived.Deep.RegionHeld
namespace Go.Proofs.YtgphnkkdmlohlaaGreatDoor
section
open Go.RowKit
set_option linter.unusedVariables false
set_option linter.unusedSimpArgs false
end
section
open Go.RowKit
set_option linter.unusedVariables false
set_option linter.unusedSimpArgs false
theorem OwnRR.start {R:Reg} {W:World} (hI:Inv R W):Ev R W R ((W.alloc (.cells #[.slice none 0 0] 25)).alloc (.cells #[.int .i64 0] 3)) ∧
  OwnRR R W.heap.size ((W.alloc (.cells #[.slice none 0 0] 25)).alloc (.cells #[.int .i64 0] 3)) (.slice (some ⟨W.heap.size+1,0,none⟩) 1 1) (.slice (some ⟨W.heap.size,0,none⟩) 1 1) [0] [nilS] [[]]:=by
 have he0:Ev R W R (W.alloc (.cells #[.slice none 0 0] 25)):=(Ev.refl hI).alloc _
 have he1:Ev R (W.alloc (.cells #[.slice none 0 0] 25)) R ((W.alloc (.cells #[.slice none 0 0] 25)).alloc (.cells #[.int .i64 0] 3)):=(Ev.refl he0.inv).alloc _
 have hs1:(W.alloc (.cells #[.slice none 0 0] 25)).heap.size=W.heap.size+1:=by simp
 have h1:=OwnI.lit1 he0.inv (B:=W.heap.size) (by omega) 0
 rw[hs1] at h1
 have h2:=World.ownsRow_lit (base:=W.heap.size) (e:=25) (size:=1) W #[.slice none 0 0] 1 (Nat.le_refl _) (by simp[maxLen]) rfl
 have h3:OwnV R W.heap.size 25 1 (W.alloc (.cells #[.slice none 0 0] 25)) (.slice (some ⟨W.heap.size,0,none⟩) 1 1) 1 [nilS]:=⟨by simpa [nilS] using h2,fun k hk=>by
  simp only[Value.ownBlock,Option.some.injEq] at hk
  rw[←hk]
  exact hI.none_of_ge (Nat.le_refl _)⟩
 have hz:∀ i,i<1→([nilS]:List Value).getD i nilS=nilS:=fun i hi=>by
  obtain rfl:i=0:=by omega
  rfl
 refine⟨he0.trans he1,h1,h3.ev he1,rfl,fun i hi=>?_,fun k a b=>?_,fun i hi k a b=>?_,fun i hi k a b=>?_,fun i j hi hj hij=>?_⟩
 ·have hi:i<1:=hi
  obtain rfl:i=0:=by omega
  exact OwnI.nil _ _ _ _
 ·have a:W.heap.size+1=k:=Option.some.inj a
  have b:W.heap.size=k:=Option.some.inj b
  omega
 ·rw[hz i hi] at b;simp[nilS,Value.ownBlock] at b
 ·rw[hz i hi] at b;simp[nilS,Value.ownBlock] at b
 ·have hi:i<1:=hi
  have hj:j<1:=hj
  omega
theorem OwnRR.popS {R:Reg} {B:Nat} {w:World} {g l c m:Nat} {v:Value} {S:List Nat} {vs:List Value} {xss:List (List Nat)} {t:Int} (h:OwnRR R B w (.slice (some ⟨g,0,none⟩) l c) v S vs xss) (hl:l=m+1) (hS:toI S=toI (S.take m) ++ [t]):OwnRR R B w (.slice (some ⟨g,0,none⟩) m c) v (S.take m) vs xss:=by
 have ho:=h.ost
 rw[hS] at ho
 have hp:=ho.pop
 rw[hl,Nat.add_sub_cancel] at hp
 exact⟨hp,h.ov,h.len,h.row,fun k e=>h.sv k e,fun i hi k e=>h.sr i hi k e,h.vr,h.rr⟩
set_option maxRecDepth 100000 in
set_option maxHeartbeats 4000000 in
theorem r12decode_any (R:Reg) (w:World) (hI:Inv R w) (p:Nat) (hp:p≤1000) (bs:List Nat) (v:Value) (hv:FreeI R w v (anyW p bs)):
  Calls Tryz.prog 49 #[v] w fun e w'=>∃ Tn,IsPerm Tn∧Tn.length=2*p∧RetMap R w Tn (if p=0 then -1 else 0) (if p=0 then 1 else 0) e w':=by
 obtain⟨a0,c0,rfl,hv⟩:=hv.open
 have hl:=anyW_length p bs
 have hNs:=fun w' (h:Ev R w R w')=>r12names_any R w' h.inv _ (anyW p bs) (hv.ev h) (fun i hi=>by rw[anyW_nth (by omega)];exact anyK_range p bs i) (by omega) (fun s hs=>any_pairing hs)
 have HDi:=Lib.hid (fun (N:List Nat) (hN:N.length=2*p) i (hi:i≤2*p)=>decP_inv (bs:=bs) hN i hi)
 have HDt:=Lib.hid (fun (N:List Nat) (hN:IsPerm N) (hl:N.length=2*p)=>decP_turn (bs:=bs) hN hl)
 have HKs:=Lib.hid (fun i=>(anyK_step p bs i).2)
 have HAi:=Lib.hid (fun i (hi:i≤2*p)=>(anyS_inv p bs i hi).le)
 have HKn:=Lib.hid (fun i (hi:i<2*p)=>anyW_nth (bs:=bs) hi)
 obtain⟨n,hn⟩:∃ n,2*p=n:=⟨_,rfl⟩
 rw[hn] at hl HDi HDt HKn HAi ⊢
 obtain⟨W,hW⟩:∃ W,anyW p bs=W:=⟨_,rfl⟩
 rw[hW] at hl hNs HDi HDt HKn hv ⊢
 rw[hl] at hNs hv ⊢
 have HNs:=Lib.hid hNs
 have HV:=Lib.hid hv
 have HWl:=Lib.hid hl
 have he0:Ev R w R (w.alloc (.cells #[.slice none 0 0,.int .i64 0,.int .i64 0] 27)):=(Ev.refl hI).alloc _
 have hn0:R w.heap.size=none:=hI.none_of_ge (Nat.le_refl _)
 have hB0:=fun w' (h:Ev R (w.alloc (.cells #[.slice none 0 0,.int .i64 0,.int .i64 0] 27)) R w')=>h.boxC3 (heap_alloc_new w (.cells #[.slice none 0 0,.int .i64 0,.int .i64 0] 27)) hn0
 have hza:(w.alloc (.cells #[.slice none 0 0,.int .i64 0,.int .i64 0] 27)).heap.size=w.heap.size+1:=by simp
 clear hv hl hNs hW hI
 go_enter Tryz.func49,Tryz.ntmps49
 go_upto_region 1 with fail
 obtain⟨wa,hwa⟩:∃ wa,w.alloc (.cells #[.slice none 0 0,.int .i64 0,.int .i64 0] 27)=wa:=⟨_,rfl⟩
 try rw[hwa] at he0 hB0 hza ⊢
 have HB0:=Lib.hid hB0
 have HEa:=Lib.hid he0
 have HZa:=Lib.hid hza
 have HI0:=Lib.hid he0.inv
 obtain⟨y0,y1,y2,yz⟩:=boxC_cells (hB0 wa (Ev.refl he0.inv)).1
 have yz0:=yz 0
 have yz1:=yz 1
 have yz2:=yz 2
 clear he0 hB0 hza hwa hn0 yz
 by_cases h0:n=0
 ·have hb:((n:Int) == 0)=true:=by rw[h0];rfl
  have hp0:p=0:=by omega
  go_wp2_with fail
  have hb3:=set3 (x:=.slice none 0 0) (y:=.int .i64 (-1)) (z:=.int .i64 1) (HB0.out _ (Ev.refl HI0.out)).1
  obtain⟨u0,u1,u2,_⟩:=boxC_cells hb3
  have hn2:=(HB0.out _ (Ev.refl HI0.out)).2
  refine bodyPost_ret (v:=refV (.slice none 0 0) (-1) 1) ?_ rfl ⟨[],?_,by first|rfl|omega|(simp;omega),none,0,?_,?_,OwnI.nil _ _ _ _⟩
  ·simp[results,Tryz.results49,go_sem,u0,u1,u2,refV]
  ·exact⟨List.nodup_nil,fun x hx=>by cases hx⟩
  ·first|rfl|(rw[if_pos hp0,if_pos hp0];rfl)|simp[hp0]
  ·exact ((HEa.out.setCell (p:=⟨w.heap.size,0,none⟩) (Nat.le_refl _) hn2 _).setCell (p:=⟨w.heap.size,1,none⟩) (Nat.le_refl _) hn2 _).setCell (p:=⟨w.heap.size,2,none⟩) (Nat.le_refl _) hn2 _
 ·have hb:((n:Int) == 0)=false:=by simp;omega
  have hb':¬ n=0:=h0
  have hp0:¬ p=0:=by omega
  have HP0:=Lib.hid hp0
  clear hp0 h0 y0 y1 y2 yz0 yz1 yz2
  go_wp2_with fail
  refine (HNs.out _ HEa.out).mono ?_
  rintro e w1 ⟨aN,cN,N,rfl,he1,hNp,hNl,hoN⟩
  try rw[HWl.out] at hNl hoN ⊢
  obtain⟨gN,rfl,_⟩:=hoN.headAt (by rw[toI_length];exact hNl) (i:=0) (by omega)
  have HE1:=Lib.hid he1
  have HON:=Lib.hid hoN
  have HNp:=Lib.hid hNp
  have HNl:=Lib.hid hNl
  obtain⟨hes,hst⟩:=OwnRR.start he1.inv
  have HGl:=Lib.hid (hoN.lt gN rfl)
  clear he1 hoN hNp hNl
  go_upto_region 6 with fail
  obtain⟨w2,hw2⟩:∃ x,((w1.alloc (.cells #[.slice none 0 0] 25)).alloc (.cells #[.int .i64 0] 3))=x:=⟨_,rfl⟩
  try rw[hw2] at hes hst ⊢
  have HE2:=Lib.hid hes
  have HSt2:=Lib.hid hst
  clear hes hst hw2
  go_wp2_with fail
  go_loopg [4,5,25] n (fun g v4 v5 v25 wr=>∃ (i:Nat) (Sx:List Nat) (X:List (List Nat)) (vs:List Value) (gA gS cA cS lx ls:Nat),i≤n∧n-i≤g∧v25=.int .i64 (i:Int)∧X.length=lx∧Sx.length=ls∧v4=.slice (some ⟨gA,0,none⟩) lx cA∧v5=.slice (some ⟨gS,0,none⟩) ls cS∧decP W N i=(Sx,X)∧Ev R w1 R wr∧OwnRR R w1.heap.size wr v5 v4 Sx vs X)
  case atStart=>exact⟨0,[0],[[]],[nilS],_,_,_,_,_,_,Nat.zero_le _,by omega,rfl,rfl,rfl,rfl,rfl,rfl,HE2.out,HSt2.out⟩
  case round=>
   obtain⟨i,Sx,X,vs,gA,gS,cA,cS,lx,ls,hin,hg,rfl,hlx,hls,rfl,rfl,hdec,hev,hst⟩:=hrel
   have HE:=Lib.hid hev
   have HSt:=Lib.hid hst
   have HDec:=Lib.hid hdec
   have HLx:=Lib.hid hlx
   have HLs:=Lib.hid hls
   clear hev hst hdec
   by_cases hi:i<n
   ·have hir:(i:Int)<(n:Int):=by omega
    have hdi:=HDi.out N HNl.out i (by omega)
    rw[HDec.out] at hdi
    have hks:=HKs.out i
    have hdx:=decP_succ W N i
    rw[HDec.out] at hdx
    dsimp only at hdx
    have hls0:0<ls:=by have:=hdi.len;dsimp only at this;omega
    have hlxb:lx≤3000:=by have:=hdi.rows;dsimp only at this;omega
    have hlsb:ls≤3000:=by have:=hdi.len;have:=HAi.out i (by omega);dsimp only at *;omega
    have htm:topL Sx<lx:=by rw[←hlx];exact hdi.st _ (topL_mem (by dsimp only;omega))
    have htv:at' Sx (ls-1)=topL Sx:=by rw[←hls];rfl
    obtain⟨tv,htv2⟩:∃ t,topL Sx=t:=⟨_,rfl⟩
    rw[htv2] at htm htv hdx
    obtain⟨dn,hdn⟩:∃ d,at' N i=d:=⟨_,rfl⟩
    rw[hdn] at hdx
    obtain⟨lq,hlq⟩:∃ q,ls-1=q:=⟨_,rfl⟩
    rw[hlq] at htv
    have hlq2:lq<ls:=by omega
    obtain⟨k,hk⟩:∃ k,nth W i=k:=⟨_,rfl⟩
    rw[hk] at hdx
    have hkk:nth W i=anyK p bs i:=HKn.out i hi
    rw[←hkk,hk] at hks
    obtain⟨gL,oL,rfl,hcL⟩:=(HV.out.ev (HEa.out.trans (HE1.out.trans HE.out))).1.cell (i:=i) (by rw[HWl.out];exact hi)
    rw[hk] at hcL
    obtain⟨_,eS,_,_,hcS,_⟩:=HSt.out.ost.headAt (i:=lq) (by rw[toI_length];exact HLs.out) hlq2
    cases eS
    rw[toI_nth,htv] at hcS
    have hov:=HSt.out.ov
    rw[HLx.out] at hov
    obtain⟨_,eA,_,_,hcA0,hfA⟩:=hov.headAt (i:=tv) (by have:=HSt.out.len;omega)
    cases eA
    obtain⟨u,hu⟩:∃ u,vs.getD tv nilS=u:=⟨_,rfl⟩
    have hcA:wr.cell? ⟨gA,tv,none⟩=some u:=by
     rw[hcA0,←hu,List.getD_eq_getElem?_getD,List.getElem?_eq_getElem (by have:=HSt.out.len;omega)];rfl
    clear hcA0
    have hrow:=HSt.out.row tv (by rw[HLx.out];exact htm)
    rw[hu] at hrow
    obtain⟨xv,hxv⟩:∃ x,X.getD tv []=x:=⟨_,rfl⟩
    rw[hxv] at hrow hdx
    obtain⟨aU,cU,e,_⟩:=hrow.ints.open
    subst e
    rw[toI_length] at hcA hrow hu
    obtain⟨lu,hlu⟩:∃ l,xv.length=l:=⟨_,rfl⟩
    rw[hlu] at hcA hrow hu
    have HCN:=Lib.hid (fun w' (h:Ev R w1 R w')=>(by
     obtain⟨_,e,_,_,h1,_⟩:=(HON.out.ev h).headAt (by rw[toI_length];exact HNl.out) hi
     cases e
     rw[toI_nth,hdn] at h1
     exact h1:w'.cell? ⟨gN,i,none⟩=some (.int .i64 (dn:Int))))
    have HEd:=Lib.hid ((HE.out).drew)
    have HSt2:=Lib.hid ((HSt.out.alloc (.cells #[.int .i64 (dn:Int)] 3)).drew)
    have HE2w:=Lib.hid ((HE.out.alloc (.cells #[.int .i64 (dn:Int)] 3)).drew)
    have HRow2:=Lib.hid ((hrow.alloc (.cells #[.int .i64 (dn:Int)] 3)).drew)
    have HS2:=Lib.hid (show ((wr.alloc (.cells #[.int .i64 (dn:Int)] 3)).drew).heap.size=wr.heap.size+1 by simp)
    have hlub:lu≤3000:=by
     have h1:=hdi.perm.length_eq
     have h2:xv.length≤X.flatten.length:=by
      rw[←hxv,List.getD_eq_getElem?_getD,List.getElem?_eq_getElem (by rw[HLx.out];exact htm)]
      exact (List.sublist_flatten_of_mem (List.getElem_mem _)).length_le
     rw[List.length_take] at h1
     try dsimp only at h1
     omega
    have HLu:=Lib.hid (show xv.length≤3000 by rw[hlu];exact hlub)
    have htmI:(tv:Int)<(lx:Int):=by omega
    have hcN:=HCN.out _ HEd.out
    have hlqI:IntKind.i64.wrap ((ls:Int)-1)=(lq:Int):=by rw[show (ls:Int)-1=(lq:Int) by omega];exact IntWalk.i64_in _ (by omega)
    have hlqr:(lq:Int)<(ls:Int):=by omega
    have HDi:=Lib.hid hdi
    have HDx:=Lib.hid hdx
    have HKs2:=Lib.hid hks
    clear hov hrow hdi hdx hks hlub
    go_upto_region 10 with fail
    go_cut [] (fun wx=>∃ vs',Ev R w1 R wx∧OwnRR R w1.heap.size wx (.slice (some ⟨gS,0,none⟩) ls cS) (.slice (some ⟨gA,0,none⟩) lx cA) Sx vs' (X.set tv (X.getD tv [] ++ [dn])))
    case first=>
     refine wp_region_held_drew (S:=(fun w':World=>w'.cell? ⟨gN,i,none⟩=some (.int .i64 (dn:Int)))) (by kernel_rfl) hcN (fun hHeld=>?_)
     refine tk 0 (v:=?c0) ?d0 ?_
     case d0=>(intro w' s0;(try dsimp only at s0);go_simp;try with_reducible rfl)
     try simp only[Act.put,rd]
     refine tk 1 (v:=?c1) ?d1 ?_
     case d1=>(intro w' s0;(try dsimp only at s0);go_simp;try with_reducible rfl)
     try simp only[Act.put,rd]
     refine tk 2 (v:=?c2) ?d2 ?_
     case d2=>(intro w' s0;(try dsimp only at s0);go_simp;try with_reducible rfl)
     try simp only[Act.put,rd]
     refine tk 3 (v:=?c3) ?d3 ?_
     case d3=>(intro w' s0;(try dsimp only at s0);go_simp;try with_reducible rfl)
     try simp only[Act.put,rd]
     refine tk 4 (v:=?c4) ?d4 ?_
     case d4=>(intro w' s0;(try dsimp only at s0);go_simp;try with_reducible rfl)
     try simp only[Act.put,rd]
     refine tk 6 (v:=?c6) ?d6 ?_
     case d6=>(intro w' s0;(try dsimp only at s0);go_simp;try with_reducible rfl)
     try simp only[Act.put,rd]
     refine tk 7 (v:=?c7) ?d7 ?_
     case d7=>(intro w' s0;(try dsimp only at s0);go_simp;try with_reducible rfl)
     try simp only[Act.put,rd]
     refine tk 8 (v:=?c8) ?d8 ?_
     case d8=>(intro w' s0;(try dsimp only at s0);go_simp;try with_reducible rfl)
     try simp only[Act.put,rd]
     refine tk 9 (v:=?c9) ?d9 ?_
     case d9=>(intro w' s0;(try dsimp only at s0);go_simp;try with_reducible rfl)
     try simp only[Act.put,rd]
     refine wpAnyH_ready (rs:=[5,10]) (by kernel_rfl) (by simp) (AllReadyH.cons rfl (fun K hK=>?_) (AllReadyH.cons rfl (fun K hK=>?_) AllReadyH.nil))
     ·go_simp
      refine hK.out _ _ hcN (fun hHeld5=>?_)
      clear hHeld
      try simp only[Act.put,rd]
      refine nx 10 fun K2 hK2=>?_
      go_simp
      refine hK2.out _ _ (HCN.out _ HE2w.out) (fun hHeld10=>?_)
      clear hHeld5
      try simp only[Act.put,rd]
      refine nx 11 fun K3 hK3=>?_
      refine step_app_int rfl _ _ rfl HRow2.out rfl ⟨wr.heap.size,0,none⟩ 1 (dn:Int) rfl ?P1 ?P2 ?P3 ?P4 ?_
      case P1=>exact cells_at (heap_alloc_new wr (.cells #[.int .i64 (dn:Int)] 3)) 0
      case P2=>rw[toI_length];have:=HLu.out;omega
      case P3=>have:=HS2.out;have:=HE.out.size;omega
      case P4=>exact fun q hq=>HE2w.out.inv.none_of_ge hq
      intro u' w3 ho3 hg3 hs3
      obtain⟨aV,cV,eV,_⟩:=ho3.ints.open
      obtain⟨lV,hlV⟩:∃ l,(toI xv ++ [(dn:Int)]).length=l:=⟨_,rfl⟩
      rw[hlV] at eV
      subst eV
      have ho3':OwnI R w1.heap.size 3 w3 (.slice aV lV cV) (toI (X.getD tv [] ++ [dn])):=by rw[hxv];simpa [toI] using ho3
      have hg3':((wr.alloc (.cells #[.int .i64 (dn:Int)] 3)).drew).grownBy w3 (vs.getD tv nilS).ownBlock:=by rw[hu];exact hg3
      have hs3':∀ k,(Value.slice aV lV cV).ownBlock=some k→(vs.getD tv nilS).ownBlock=some k∨((wr.alloc (.cells #[.int .i64 (dn:Int)] 3)).drew).heap.size≤k:=by rw[hu];exact hs3
      have hst3:=HSt2.out.push HLx.out (i:=tv) (by rw[HLx.out];exact htm) ho3' hg3' hs3'
      have he3:=HE2w.out.app HRow2.out (Nat.le_refl _) hg3
      have hgA:=hst3.ov.lt gA rfl
      have he4:=he3.setCell (p:=⟨gA,tv,none⟩) hgA.1 (HSt.out.ov.2 gA rfl) (.slice aV lV cV)
      have hov3:=(HSt2.out.ov.kept hg3' (by
       cases e:(vs.getD tv nilS).ownBlock with
       | none=>exact Or.inr (by simp[Value.ownBlock])
       | some k=>exact Or.inr (fun e2=>HSt2.out.vr tv (by rw[HLx.out];exact htm) k e2 e)))
      rw[HLx.out] at hov3
      obtain⟨_,eA3,_,_,hc30,hf3⟩:=hov3.headAt (i:=tv) (by have:=HSt.out.len;omega)
      cases eA3
      have hc3:w3.cell? ⟨gA,tv,none⟩=some (.slice aU lu cU):=by
       rw[hc30,←hu,List.getD_eq_getElem?_getD,List.getElem?_eq_getElem (by have:=HSt.out.len;omega)];rfl
      clear hc30
      have HSt3:=Lib.hid hst3
      have HE4:=Lib.hid he4
      have hSb:=HCN.out _ he3
      have hSc:=HCN.out _ he4
      clear ho3 ho3' hg3 hg3' hs3 hs3' hst3 he3 he4 hov3
      refine hK3.out _ _ hSb (fun hHeldB=>?_)
      try simp only[Act.put,rd]
      refine tk 12 (v:=?PV) ?PW ?_
      case PW=>(intro w' s0;(try dsimp only at s0);go_simp;try with_reducible rfl)
      try simp only[Act.put,rd]
      refine nx 13 fun K4 hK4=>?_
      go_simp
      refine hK4.out _ _ hSc (fun hHeldC=>?_)
      clear hHeldB hc3 hf3
      refine wpAnyH_done (by kernel_rfl) ?_ _
      clear hHeldC hSb hSc
      go_wp2_with fail
      go_meet
      exact⟨_,HE4.out,HSt3.out⟩
     ·go_simp
      refine hK.out _ _ (HCN.out _ HE2w.out) (fun hHeld10=>?_)
      clear hHeld
      try simp only[Act.put,rd]
      have hcA2:((wr.alloc (.cells #[.int .i64 (dn:Int)] 3)).drew).cell? ⟨gA,tv,none⟩=some (.slice aU lu cU):=by
       show (wr.alloc (.cells #[.int .i64 (dn:Int)] 3)).cell? ⟨gA,tv,none⟩=_
       rw[World.cell?_alloc_lt _ _ _ (lt_of_cell hcA)];exact hcA
      refine nx 5 fun K2 hK2=>?_
      go_simp
      refine hK2.out _ _ (HCN.out _ HE2w.out) (fun hHeld5=>?_)
      clear hHeld10
      try simp only[Act.put,rd]
      refine nx 11 fun K3 hK3=>?_
      refine step_app_int rfl _ _ rfl HRow2.out rfl ⟨wr.heap.size,0,none⟩ 1 (dn:Int) rfl ?Q1 ?Q2 ?Q3 ?Q4 ?_
      case Q1=>exact cells_at (heap_alloc_new wr (.cells #[.int .i64 (dn:Int)] 3)) 0
      case Q2=>rw[toI_length];have:=HLu.out;omega
      case Q3=>have:=HS2.out;have:=HE.out.size;omega
      case Q4=>exact fun q hq=>HE2w.out.inv.none_of_ge hq
      intro u' w3 ho3 hg3 hs3
      obtain⟨aV,cV,eV,_⟩:=ho3.ints.open
      obtain⟨lV,hlV⟩:∃ l,(toI xv ++ [(dn:Int)]).length=l:=⟨_,rfl⟩
      rw[hlV] at eV
      subst eV
      have ho3':OwnI R w1.heap.size 3 w3 (.slice aV lV cV) (toI (X.getD tv [] ++ [dn])):=by rw[hxv];simpa [toI] using ho3
      have hg3':((wr.alloc (.cells #[.int .i64 (dn:Int)] 3)).drew).grownBy w3 (vs.getD tv nilS).ownBlock:=by rw[hu];exact hg3
      have hs3':∀ k,(Value.slice aV lV cV).ownBlock=some k→(vs.getD tv nilS).ownBlock=some k∨((wr.alloc (.cells #[.int .i64 (dn:Int)] 3)).drew).heap.size≤k:=by rw[hu];exact hs3
      have hst3:=HSt2.out.push HLx.out (i:=tv) (by rw[HLx.out];exact htm) ho3' hg3' hs3'
      have he3:=HE2w.out.app HRow2.out (Nat.le_refl _) hg3
      have hgA:=hst3.ov.lt gA rfl
      have he4:=he3.setCell (p:=⟨gA,tv,none⟩) hgA.1 (HSt.out.ov.2 gA rfl) (.slice aV lV cV)
      have hov3:=(HSt2.out.ov.kept hg3' (by
       cases e:(vs.getD tv nilS).ownBlock with
       | none=>exact Or.inr (by simp[Value.ownBlock])
       | some k=>exact Or.inr (fun e2=>HSt2.out.vr tv (by rw[HLx.out];exact htm) k e2 e)))
      rw[HLx.out] at hov3
      obtain⟨_,eA3,_,_,hc30,hf3⟩:=hov3.headAt (i:=tv) (by have:=HSt.out.len;omega)
      cases eA3
      have hc3:w3.cell? ⟨gA,tv,none⟩=some (.slice aU lu cU):=by
       rw[hc30,←hu,List.getD_eq_getElem?_getD,List.getElem?_eq_getElem (by have:=HSt.out.len;omega)];rfl
      clear hc30
      have HSt3:=Lib.hid hst3
      have HE4:=Lib.hid he4
      have hSb:=HCN.out _ he3
      have hSc:=HCN.out _ he4
      clear ho3 ho3' hg3 hg3' hs3 hs3' hst3 he3 he4 hov3
      refine hK3.out _ _ hSb (fun hHeldB=>?_)
      try simp only[Act.put,rd]
      refine tk 12 (v:=?QV) ?QW ?_
      case QW=>(intro w' s0;(try dsimp only at s0);go_simp;try with_reducible rfl)
      try simp only[Act.put,rd]
      refine nx 13 fun K4 hK4=>?_
      go_simp
      refine hK4.out _ _ hSc (fun hHeldC=>?_)
      clear hHeldB hc3 hf3
      refine wpAnyH_done (by kernel_rfl) ?_ _
      clear hHeldC hSb hSc
      go_wp2_with fail
      go_meet
      exact⟨_,HE4.out,HSt3.out⟩
    case rest=>
     obtain⟨vs5,hex,hst5⟩:=hcut
     rw[hxv] at hst5
     have HDx2:=HDx
     obtain⟨X1,hX1⟩:∃ x,X.set tv (xv ++ [dn])=x:=⟨_,rfl⟩
     have hx1l:X1.length=lx:=by rw[←hX1,List.length_set];exact HLx.out
     have hdx1:=HDx.out
     rw[hX1] at hst5 hdx1
     have HE5:=Lib.hid hex
     have HSt5:=Lib.hid hst5
     have HX1l:=Lib.hid hx1l
     have HDx1:=Lib.hid hdx1
     obtain⟨i1,hi1⟩:∃ x,i+1=x:=⟨_,rfl⟩
     have hg1:n-i1≤gk-1:=by omega
     have hin1:i1≤n:=by omega
     have hgk:n-i1<gk:=by omega
     have hvi:IntKind.i64.wrap ((i:Int)+1)=(i1:Int):=by rw[show (i:Int)+1=(i1:Int) by omega];exact IntWalk.i64_in _ (by omega)
     have HI1:=Lib.hid hi1
     have hlxb':lx≤3000:=hlxb
     have hlsb':ls≤3000:=hlsb
     have hlst:(Sx.take lq).length=lq:=by rw[List.length_take];have:=HLs.out;omega
     have HLst:=Lib.hid hlst
     have hpopx:toI Sx=toI (Sx.take lq) ++ [(tv:Int)]:=by
      have h1:Sx=Sx.take lq ++ [tv]:=by
       refine List.ext_getElem (by rw[List.length_append,hlst,List.length_singleton];have:=HLs.out;omega) fun j h1 h2=>?_
       by_cases hj:j<lq
       ·rw[List.getElem_append_left (by omega)];simp
       ·have hjq:j=lq:=by have:=HLs.out;omega
        subst hjq
        rw[List.getElem_append_right (by omega)]
        simp only[hlst,Nat.sub_self,List.getElem_cons_zero]
        rw[←htv,at'_eq h1]
      have h2:toI Sx=toI (Sx.take lq ++ [tv]):=congrArg toI h1
      rw[h2]
      unfold toI
      rw[List.map_append]
      rfl
     have HPop:=Lib.hid hpopx
     clear hex hst5 hx1l hdx1 hX1 hi1 hlst hpopx hcL hcS hcA hfA hcN
     rcases HKs2.out with ⟨hk0,_⟩|⟨hk0,_⟩|⟨hk0,_,_⟩|⟨hk0,_,_⟩
     ·subst hk0
      have HSt6:=Lib.hid (HSt5.out.alloc (.cells #[.int .i64 (lx:Int)] 3))
      have HE6:=Lib.hid (HE5.out.alloc (.cells #[.int .i64 (lx:Int)] 3))
      have HS6:=Lib.hid (show (wc.alloc (.cells #[.int .i64 (lx:Int)] 3)).heap.size=wc.heap.size+1 by simp)
      go_wp2_with (at_builtin;refine wpList_app_int rfl _ _ rfl HSt6.out.ost rfl ⟨wc.heap.size,0,none⟩ 1 (lx:Int) rfl ?G1 ?G2 ?G3 ?G4 ?_)
      try (case G1=>exact cells_at (heap_alloc_new wc (.cells #[.int .i64 (lx:Int)] 3)) 0)
      case G2=>rw[toI_length,HLs.out];omega
      case G3=>have h:=HE6.out.size;simpa using h
      case G4=>exact fun q hq=>HE5.out.inv.none_of_ge (Nat.le_trans (Nat.le_succ _) hq)
      intro v7 w7 ho7 hg7 hs7
      have hst7:=HSt6.out.pushS (x:=lx) (by simpa [toI] using ho7) hg7 (fun k hk=>(hs7 k hk).imp id (fun h=>by first|exact h|(simpa using h)))
      have he7:=HE6.out.app HSt6.out.ost (Nat.le_refl _) hg7
      have HSt7:=Lib.hid hst7
      have HE7:=Lib.hid he7
      have HSt8:=Lib.hid (hst7.alloc (.cells #[.slice none 0 0] 25))
      have HE8:=Lib.hid (he7.alloc (.cells #[.slice none 0 0] 25))
      have HS8:=Lib.hid (show (w7.alloc (.cells #[.slice none 0 0] 25)).heap.size=w7.heap.size+1 by simp)
      clear ho7 hg7 hs7 hst7 he7
      have hov8:=HSt8.out.ov
      rw[HX1l.out] at hov8
      have HOv8:=Lib.hid hov8
      clear hov8
      go_wp2_with (at_builtin;refine wpList_app_row 107 25 1 24 nilS Tryz.underlying107 islice_info rfl (by decide) (by decide) rfl _ _ rfl HOv8.out rfl ⟨w7.heap.size,0,none⟩ 1 1 [nilS] rfl ?H0 ?H1 ?H2 ?H3 ?H4 ?H5 ?_)
      try (case H0=>first|rfl|simp)
      case H1=>exact one_cell _ _
      case H2=>exact one_one _ _ _
      case H3=>omega
      case H4=>exact Nat.le_trans HE8.out.size (Nat.le_refl _)
      case H5=>exact fun q hq=>HE7.out.inv.none_of_ge (Nat.le_trans (by simp) hq)
      intro v9 w9 ho9 hg9 hs9
      have ho9':OwnV R w1.heap.size 25 1 w9 v9 (X1.length+1) (vs5 ++ [nilS]):=by rw[HX1l.out];exact ho9
      have hst9:=HSt8.out.more ho9' hg9 (fun k hk=>(hs9 k hk).imp id (fun h=>by first|exact h|(simpa using h)))
      have he9:=HE8.out.appV HSt8.out.ov (Nat.le_refl _) hg9
      obtain⟨a9,c9,rfl,_⟩:=ho9.open
      obtain⟨g9,rfl,_⟩:=ho9.headAt (i:=0) (by simp)
      obtain⟨a7,c7,e7,_⟩:=hst9.ost.ints.open
      rw[toI_length,List.length_append,List.length_singleton,HLs.out] at e7
      subst e7
      obtain⟨g7,rfl,_⟩:=hst9.ost.headAt (by rw[toI_length,List.length_append,List.length_singleton,HLs.out]) (i:=0) (by omega)
      have HSt9:=Lib.hid hst9
      have HE9:=Lib.hid he9
      clear ho9 ho9' hg9 hs9 hst9 he9
      go_wp2_with fail
      go_roundg (n-i1)
      case measure=>omega
      case rel=>
       have hd:=HDx1.out
       first|rw[if_pos rfl] at hd|rw[if_pos trivial] at hd
       rw[HX1l.out] at hd
       exact⟨i1,Sx ++ [lx],X1 ++ [[]],vs5 ++ [nilS],g9,g7,c9,c7,lx+1,ls+1,hin1,Nat.le_refl _,by go_num,by rw[List.length_append,HX1l.out];rfl,by rw[List.length_append,HLs.out];rfl,rfl,rfl,by rw[←HI1.out];exact hd,HE9.out,HSt9.out⟩
     ·subst hk0
      go_wp2_with fail
      go_roundg (n-i1)
      case measure=>omega
      case rel=>
       have hd:=HDx1.out
       first|rw[if_neg (by decide),if_neg (by decide)] at hd|rw[if_neg (by decide)] at hd|skip
       exact⟨i1,Sx,X1,vs5,gA,gS,cA,cS,lx,ls,hin1,Nat.le_refl _,by go_num,HX1l.out,HLs.out,rfl,rfl,by rw[←HI1.out];exact hd,HE5.out,HSt5.out⟩
     ·subst hk0
      have hst6:=HSt5.out.popS (m:=lq) (c:=cS) (by omega) HPop.out
      have HSt6:=Lib.hid hst6
      have hlqc:lq≤cS:=by
       have:=HSt5.out.ost.capLe (by rw[toI_length];exact HLs.out)
       omega
      clear hst6
      go_wp2_with fail
      go_roundg (n-i1)
      case measure=>omega
      case rel=>
       have hd:=HDx1.out
       first|rw[if_neg (by decide),if_pos rfl] at hd|rw[if_neg (by decide),if_pos trivial] at hd|rw[if_pos trivial] at hd|(simp only[if_true] at hd)
       rw[HLs.out,show ls-1=lq by omega] at hd
       exact⟨i1,Sx.take lq,X1,vs5,gA,gS,cA,cS,lx,lq,hin1,Nat.le_refl _,by go_num,HX1l.out,HLst.out,rfl,rfl,by rw[←HI1.out];exact hd,HE5.out,HSt6.out⟩
     ·subst hk0
      go_wp2_with fail
      go_roundg (n-i1)
      case measure=>omega
      case rel=>
       have hd:=HDx1.out
       first|rw[if_neg (by decide),if_neg (by decide)] at hd|rw[if_neg (by decide)] at hd|skip
       exact⟨i1,Sx,X1,vs5,gA,gS,cA,cS,lx,ls,hin1,Nat.le_refl _,by go_num,HX1l.out,HLs.out,rfl,rfl,by rw[←HI1.out];exact hd,HE5.out,HSt5.out⟩
   ·obtain rfl:i=n:=by omega
    obtain⟨w5,hw5⟩:∃ x,x=wr:=⟨_,rfl⟩
    subst hw5
    have HE5:=HE
    have hturn:=HDt.out N HNp.out HNl.out
    rw[HDec.out] at hturn
    try dsimp only at hturn
    obtain⟨xss,hxss⟩:∃ x,x=X:=⟨_,rfl⟩
    subst hxss
    obtain⟨m,hm⟩:∃ m,m=lx:=⟨_,rfl⟩
    subst hm
    obtain⟨n,hn9⟩:∃ x,x=i:=⟨_,rfl⟩
    subst hn9
    have HM:=HLx
    have hro:=hturn.2.2
    have hsm0:=hro.rowsF
    have HTn:=Lib.hid (And.intro hturn.1 hturn.2.1)
    have hdi:=(HDi.out N HNl.out n (Nat.le_refl _)).rows
    rw[HDec.out] at hdi
    try dsimp only at hdi
    have hsm:=hsm0.sm (N:=n) (fun y hy=>by rw[hturn.2.1] at hy;exact hy) (by omega) (by omega)
    have HRs:=Lib.hid hsm.2
    have HLt:=Lib.hid (fun k hk x hx=>(by have:=hro.below k hk x hx;rwa [hturn.2.1] at this:x<n))
    have hov:=HSt.out.ov
    rw[HLx.out] at hov
    have HOv:=Lib.hid hov
    have HRw:=Lib.hid (show RowsLL R w5 (fun _=>False) vs xss from⟨HSt.out.len,fun k hk=>by
     have h:=HSt.out.row k hk
     obtain⟨ai,ci,e,h1⟩:=h.free.open
     rw[toI_length] at e h1
     exact⟨_,by rw[List.getD_eq_getElem?_getD,List.getElem?_eq_getElem (by rw[HSt.out.len];exact hk)];rfl,ai,ci,e,h1,fun q hq=>⟨fun h=>h,(h.lt q (by rw[e];exact hq)).2⟩⟩⟩)
    have HI5:=Lib.hid HE.out.inv
    obtain⟨i0,hi',hz0,hz1,hz2⟩:=info_parts int_info
    have hmb:m≤3000:=by rw[←HLx.out];omega
    clear hturn hro hsm0 hsm hov hdi
    go_wp2_with (refine wpList_make_full _ rfl _ _ 25 rfl w5.heap.size 3 i0 (.int .i64 0) 1 Tryz.underlying25 hi' hz0 hz1 .i64 .i64 (n:Int) (n:Int) n rfl rfl rfl rfl ?q1 ?q2 (Nat.le_refl _) ?_)
    case q1=>rw[hz2];omega
    case q2=>unfold maxLen;omega
    intro w2 ho2 hg2
    have hown:OwnI R w5.heap.size 3 w2 (.slice (some ⟨w5.heap.size,0,none⟩) n n) (List.replicate n 0):=OwnI.made HI5.out ho2
    have he2:Ev R w5 R w2:=(Ev.refl HI5.out).grown hg2 (by simp)
    have hoa:OutAt R w5 (w2.alloc (.cells #[.slice (some ⟨w5.heap.size,0,none⟩) n n,.int .i64 0,.int .i64 0] 27)) w2.heap.size w5.heap.size n (List.replicate n 0) 0 0:=
     ⟨he2.alloc _,he2.inv.none_of_ge (Nat.le_refl _),heap_alloc_new _ _,by rw[toI_reps];exact hown.alloc _,he2.size,fun e=>by have:=(hown.lt w5.heap.size rfl).2;omega,by simp⟩
    have HOa:=Lib.hid hoa
    obtain⟨bo,hbo⟩:∃ x,w2.heap.size=x:=⟨_,rfl⟩
    obtain⟨gS,hgS⟩:∃ x,w5.heap.size=x:=⟨_,rfl⟩
    obtain⟨w3,hw3⟩:∃ x,w2.alloc (.cells #[.slice (some ⟨w5.heap.size,0,none⟩) n n,.int .i64 0,.int .i64 0] 27)=x:=⟨_,rfl⟩
    rw[hw3,hbo,hgS] at HOa
    have HGs:=Lib.hid hgS
    clear hown he2 hoa ho2 hg2
    go_upto_region 18 with fail
    try rw[hgS] at hw3
    try rw[hw3]
    try rw[hbo]
    try rw[hgS]
    clear hw3 hbo hgS
    go_wp2_with fail
    go_loopg [73] m (fun g v73 wr=>∃ k:Nat,k≤m∧m-k≤g∧v73=.int .i64 (k:Int)∧OutAt R w5 wr bo gS n (layA (xss.take k) (List.replicate n 0)) 0 0)
    case atStart=>exact⟨0,Nat.zero_le _,by omega,rfl,HOa.out⟩
    case round=>
     clear HOa
     obtain⟨k,hki,hg2,rfl,hoa⟩:=hrel
     by_cases hk:k<m
     ·obtain⟨u,hu,ai,ci,hue,hfr,_⟩:=HRw.out.row k (by rw[HM.out];exact hk)
      have hui:k<vs.length:=by rw[HRw.out.len,HM.out];exact hk
      obtain⟨_,eg0,_,_,hc0,_⟩:=(HOv.out.ev hoa.ev).headAt (i:=k) hui
      cases eg0
      rw[hu,hue] at hc0
      have hlt:=HLt.out k (by rw[HM.out];exact hk)
      have hxs:=(HRs.out k (by rw[HM.out];exact hk)).1
      have htk:=layA_take (xss:=xss) (S:=List.replicate n 0) (k:=k) (by rw[HM.out];exact hk)
      obtain⟨X,hX⟩:∃ X,xss.getD k []=X:=⟨_,rfl⟩
      rw[hX] at hc0 hfr hlt hxs htk
      obtain⟨L,hL⟩:∃ L,X.length=L:=⟨_,rfl⟩
      rw[hL] at hc0 hfr hxs htk
      obtain⟨T1,hT1⟩:∃ T,layA (xss.take k) (List.replicate n 0)=T:=⟨_,rfl⟩
      rw[hT1] at hoa htk
      have HLe:=Lib.hid hL
      have HFr:=Lib.hid (fun w' (h:Ev R w5 R w')=>hfr.ev h)
      have HLt2:=Lib.hid hlt
      have HTk:=Lib.hid htk
      have HOa:=Lib.hid hoa
      have hkr:(k:Int)<(m:Int):=by omega
      clear hu hue hfr hX hL hT1 hlt htk hoa
      go_wp2_with fail
      go_loopg [79] L (fun g v79 wr=>∃ j:Nat,j≤L∧L-j≤g∧v79=.int .i64 (j:Int)∧OutAt R w5 wr bo gS n (layT X T1 j) 0 0)
      case atStart=>exact⟨0,Nat.zero_le _,by omega,rfl,HOa.out⟩
      case round=>
       clear HOa hc0
       obtain⟨j,hjl,hg3,rfl,hoa⟩:=hrel
       have HOa:=Lib.hid hoa
       have hfr:=HFr.out _ hoa.ev
       by_cases hj:j<L
       ·obtain⟨bS,oS,rfl,cx⟩:=hfr.at (i:=j) (by rw[HLe.out];exact hj)
        obtain⟨_,_,e0,cf⟩:=hfr.at (i:=0) (by rw[HLe.out];omega)
        cases e0
        have hxn:at' X j<n:=HLt2.out _ (by rw[at'_eq (by rw[HLe.out];exact hj)];exact List.getElem_mem _)
        obtain⟨x,hx⟩:∃ x,at' X j=x:=⟨_,rfl⟩
        obtain⟨f,hf⟩:∃ x,at' X 0=x:=⟨_,rfl⟩
        have hsc:layT X T1 (j+1)=(layT X T1 j).set x (at' X (nextI L j)):=by show (layT X T1 j).set (at' X j) (at' X (nextI X.length j))=_;rw[hx,HLe.out]
        rw[hx] at cx hxn
        rw[hf] at cf
        simp only[Nat.add_zero] at cf
        obtain⟨d0,_,_,_⟩:=hoa.cells
        obtain⟨_,e1,_,_,s1,f1⟩:=hoa.own.headAt (by rw[toI_length];exact hoa.len) hxn
        cases e1
        have hjr:(j:Int)<(L:Int):=by omega
        have hxr:(x:Int)<(n:Int):=by omega
        have hL0:(0:Int)<(L:Int):=by omega
        obtain⟨j1,hj1⟩:∃ x,j+1=x:=⟨_,rfl⟩
        have hw:IntKind.i64.wrap ((j:Int)+1)=(j1:Int):=by rw[show (j:Int)+1=(j1:Int) by omega];exact IntWalk.i64_in _ (by omega)
        by_cases hjn:j1<L
        ·obtain⟨_,_,e0,cn⟩:=hfr.at (i:=j1) (by rw[HLe.out];exact hjn)
         cases e0
         obtain⟨y,hy⟩:∃ x,at' X j1=x:=⟨_,rfl⟩
         rw[hy] at cn
         rw[show nextI L j=j1 by unfold nextI;rw[if_pos (by omega),hj1],hy] at hsc
         have hjnr:(j1:Int)<(L:Int):=by omega
         have hput:=hoa.putS hxn y
         rw[←hsc] at hput
         have HO2:=Lib.hid hput
         clear hput hsc hoa hfr hx hf hy
         go_wp2_with fail
         go_roundg (L-(j+1))
         case measure=>omega
         case rel=>exact⟨j+1,by omega,by omega,by go_num,HO2.out⟩
        ·rw[show nextI L j=0 by unfold nextI;rw[if_neg (by omega)],hf] at hsc
         have hjnr:¬ (j1:Int)<(L:Int):=by omega
         have hput:=hoa.putS hxn f
         rw[←hsc] at hput
         have HO2:=Lib.hid hput
         clear hput hsc hoa hfr hx hf
         go_wp2_with fail
         go_roundg (L-(j+1))
         case measure=>omega
         case rel=>exact⟨j+1,by omega,by omega,by go_num,HO2.out⟩
       ·obtain rfl:j=L:=by omega
        have ho:=hoa
        rw[←HTk.out] at ho
        have HO2:=Lib.hid ho
        clear hoa hfr ho HOa
        go_wp2_with fail
        go_roundg (m-(k+1))
        case measure=>omega
        case rel=>exact⟨k+1,by omega,by omega,by go_num,HO2.out⟩
     ·obtain rfl:k=m:=by omega
      have hall:xss.take k=xss:=by rw[←HM.out,List.take_length]
      rw[hall] at hoa
      obtain⟨d0,d1,d2,_⟩:=hoa.cells
      obtain⟨yb,yn⟩:=HB0.out _ (HE1.out.trans (HE5.out.trans hoa.ev))
      obtain⟨y0,y1,y2,yf⟩:=boxC_cells yb
      have hf0:=yf 0
      have hf1:=yf 1
      have hf2:=yf 2
      have HYb:=Lib.hid yb
      have HYn:=Lib.hid yn
      have HOa:=Lib.hid hoa
      have hlen:(layA xss (List.replicate n 0)).length=n:=hoa.len
      have HLen:=Lib.hid hlen
      clear hoa yb yn yf hall hlen
      go_wp2_with fail
      have hb3:(((wr.setCell ⟨w.heap.size,0,none⟩ (.slice (some ⟨gS,0,none⟩) n n)).setCell ⟨w.heap.size,1,none⟩ (.int .i64 0)).setCell ⟨w.heap.size,2,none⟩ (.int .i64 0)).heap[w.heap.size]?=some (.cells #[.slice (some ⟨gS,0,none⟩) n n,.int .i64 0,.int .i64 0] 27 (0,0)):=heap_setCell_same _ _ 2 _ _ _ (heap_setCell_same _ _ 1 _ _ _ (heap_setCell_same _ _ 0 _ _ _ HYb.out))
      obtain⟨u0,u1,u2,_⟩:=boxC_cells hb3
      refine bodyPost_ret (v:=refV (.slice (some ⟨gS,0,none⟩) n n) 0 0) ?_ rfl ⟨layA xss (List.replicate n 0),HTn.out.1,HTn.out.2,some ⟨gS,0,none⟩,n,?_,?_,?_⟩
      ·simp[results,Tryz.results49,go_sem,u0,u1,u2,refV]
      ·rw[HLen.out]
      ·exact ((((HEa.out.trans (HE1.out.trans HE5.out)).trans HOa.out.ev).setCell (p:=⟨w.heap.size,0,none⟩) (Nat.le_refl _) HYn.out _).setCell (p:=⟨w.heap.size,1,none⟩) (Nat.le_refl _) HYn.out _).setCell (p:=⟨w.heap.size,2,none⟩) (Nat.le_refl _) HYn.out _
      ·rw[HLen.out]
       have hne:∀ (o:Nat),(Value.slice (some ⟨gS,0,none⟩) n n).ownBlock≠some (⟨w.heap.size,o,none⟩:Addr).block:=fun o e=>by
        have h1:=(HOa.out.own.lt _ e).1
        have:=HZa.out
        have:=HE1.out.size
        have:=HE5.out.size
        simp at h1
        omega
       exact (((HOa.out.own.mono (by have:=HZa.out;have:=HE1.out.size;have:=HE5.out.size;omega)).setCell (hne 0) _).setCell (hne 1) _).setCell (hne 2) _
end
section
open Go.RowKit
set_option linter.unusedVariables false
def RetAny (R:Reg) (w:World) (p:Nat) (e:Ending) (w':World):Prop:=
 ∃ Tn rt ln,IsPerm Tn∧MapOk Tn rt ln∧Tn.length=2*p∧ln≤1∧RetMap R w Tn rt ln e w'
set_option maxRecDepth 100000 in
set_option maxHeartbeats 2000000 in
theorem r12plane_any (R:Reg) (w:World) (hI:Inv R w) (p:Nat) (hp:p≤1000) (v:Value) (bs:List Nat) (hv:FreeB R w v bs) (root:Nat) (hr:root≤255):
  Calls Tryz.prog 19 #[.int .i64 (p:Int),v,.int .u8 (root:Int)] w (RetAny R w p):=by
 have he0:Ev R w R (w.alloc (.cells #[.slice none 0 0,.int .i64 0,.int .i64 0] 27)):=(Ev.refl hI).alloc _
 have hn0:R w.heap.size=none:=hI.none_of_ge (Nat.le_refl _)
 have hB0:=fun w' (h:Ev R (w.alloc (.cells #[.slice none 0 0,.int .i64 0,.int .i64 0] 27)) R w')=>h.boxC3 (heap_alloc_new w (.cells #[.slice none 0 0,.int .i64 0,.int .i64 0] 27)) hn0
 have hza:(w.alloc (.cells #[.slice none 0 0,.int .i64 0,.int .i64 0] 27)).heap.size=w.heap.size+1:=by simp
 have hAn:=r4any_any R (w.alloc (.cells #[.slice none 0 0,.int .i64 0,.int .i64 0] 27)) he0.inv p hp v bs (hv.ev he0)
 have hDe:=fun w' v' (h:Ev R (w.alloc (.cells #[.slice none 0 0,.int .i64 0,.int .i64 0] 27)) R w') (hv':FreeI R w' v' (anyW p bs))=>r12decode_any R w' h.inv p hp bs v' hv'
 obtain⟨a0,c0,rfl,_,_⟩:=hv
 go_enter Tryz.func19,Tryz.ntmps19
 go_upto_region 1 with fail
 obtain⟨wa,hwa⟩:∃ wa,w.alloc (.cells #[.slice none 0 0,.int .i64 0,.int .i64 0] 27)=wa:=⟨_,rfl⟩
 try rw[hwa] at he0 hB0 hza hAn hDe ⊢
 have HB0:=Lib.hid hB0
 have HEa:=Lib.hid he0
 have HZa:=Lib.hid hza
 have HAn:=Lib.hid hAn
 have HDe:=Lib.hid hDe
 clear he0 hB0 hza hAn hDe hwa hn0 hI
 go_wp2_with fail
 refine HAn.out.mono ?_
 rintro e w1 ⟨v1,rfl,he1,ho1⟩
 have HE1:=Lib.hid he1
 have HDe:=Lib.hid (HDe.out w1 v1 he1 ho1.free)
 obtain⟨a1,c1,rfl,_⟩:=ho1.ints.open
 clear he1 ho1
 go_wp2_with fail
 refine HDe.out.mono ?_
 rintro e w2 ⟨Tn,hTp,hTl,a2,c2,rfl,he2,ho2⟩
 have HE2:=Lib.hid (HE1.out.trans he2)
 obtain⟨n,hn⟩:∃ n,Tn.length=n:=⟨_,rfl⟩
 rw[hn] at ho2 hTl ⊢
 have HOl:=Lib.hid (show ∀ k,(Value.slice a2 n c2).ownBlock=some k→wa.heap.size≤k from fun k hk=>Nat.le_trans HE1.out.size (ho2.lt k hk).1)
 have HO2:=Lib.hid ho2
 have HTp:=Lib.hid hTp
 have HTn:=Lib.hid hn
 clear he2 ho2 hTp hn
 obtain⟨rt0,hrt0⟩:∃ x:Int,(if p=0 then (-1:Int) else 0)=x:=⟨_,rfl⟩
 obtain⟨ln0,hln0⟩:∃ x:Int,(if p=0 then (1:Int) else 0)=x:=⟨_,rfl⟩
 rw[hrt0,hln0]
 have HRt:=Lib.hid hrt0
 have HLn:=Lib.hid hln0
 clear hrt0 hln0
 simp only[refV]
 have HTl:=Lib.hid hTl
 by_cases h0:n=0
 ·have hb:¬ (0:Int)<(n:Int):=by omega
  have hb':¬ 0<n:=by omega
  have hp0:p=0:=by omega
  have HP0:=Lib.hid hp0
  have HN0:=Lib.hid h0
  have HE3:=Lib.hid (HE2.out.alloc (.cells #[.slice a2 n c2,.int .i64 rt0,.int .i64 ln0] 27))
  obtain⟨x0,x1,x2,_⟩:=boxC_cells (heap_alloc_new w2 (.cells #[.slice a2 n c2,.int .i64 rt0,.int .i64 ln0] 27))
  obtain⟨y0,y1,y2,yz⟩:=boxC_cells (HB0.out _ HE3.out).1
  have yz0:=yz 0
  have yz1:=yz 1
  have yz2:=yz 2
  clear h0 hp0 hTl yz
  go_wp2_with fail
  have hb3:=set3 (x:=.slice a2 n c2) (y:=.int .i64 rt0) (z:=.int .i64 ln0) (HB0.out _ HE3.out).1
  obtain⟨u0,u1,u2,_⟩:=boxC_cells hb3
  have hn2:=(HB0.out _ HE3.out).2
  have hne:∀ (o:Nat),(Value.slice a2 n c2).ownBlock≠some (⟨w.heap.size,o,none⟩:Addr).block:=fun o e'=>by
   have h1:=HOl.out _ e'
   have h2:=HZa.out
   have h3:(⟨w.heap.size,o,none⟩:Addr).block=w.heap.size:=rfl
   omega
  refine bodyPost_ret (v:=refV (.slice a2 n c2) rt0 ln0) ?_ rfl ⟨Tn,rt0,ln0,HTp.out,?_,?_,(by have:=HLn.out;split at this <;> omega),a2,c2,by rw[HTn.out],?_,?_⟩
  ·simp[results,Tryz.results19,go_sem,u0,u1,u2,refV]
  ·have h1:=HRt.out
   have h2:=HLn.out
   rw[if_pos HP0.out] at h1 h2
   have h3:=HTn.out
   have h4:=HN0.out
   exact⟨by omega,by omega,by omega,by omega,Or.inl ⟨by omega,h1.symm⟩⟩
  ·rw[HTn.out];exact HTl.out
  ·exact (((HEa.out.trans HE3.out).setCell (p:=⟨w.heap.size,0,none⟩) (Nat.le_refl _) hn2 _).setCell (p:=⟨w.heap.size,1,none⟩) (Nat.le_refl _) hn2 _).setCell (p:=⟨w.heap.size,2,none⟩) (Nat.le_refl _) hn2 _
  ·rw[HTn.out]
   exact (((((HO2.out.alloc _).mono (Nat.le_trans (Nat.le_trans (by have:=HZa.out;omega) HE1.out.size) (Nat.le_refl _))).setCell (hne 0) _).setCell (hne 1) _).setCell (hne 2) _)
 ·have hb:(0:Int)<(n:Int):=by omega
  have hb':0<n:=by omega
  have hp0:¬ p=0:=by omega
  have HP0:=Lib.hid hp0
  have hv0:IntKind.i64.wrap (root:Int)=(root:Int):=IntWalk.i64_in _ (by omega)
  obtain⟨rr,hrr⟩:∃ x,root % n=x:=⟨_,rfl⟩
  have hr1:(root:Int).tmod (n:Int)=(rr:Int):=by rw[←hrr];rfl
  have hr2:(root:Int) % (n:Int)=(rr:Int):=by rw[←hrr];rfl
  have hrn:rr<n:=by rw[←hrr];exact Nat.mod_lt _ hb'
  have hnz:¬ (n:Int)=0:=by omega
  have hnz':¬ n=0:=h0
  have HRn:=Lib.hid hrn
  have HE3:=Lib.hid (HE2.out.alloc (.cells #[.slice a2 n c2,.int .i64 (rr:Int),.int .i64 ln0] 27))
  obtain⟨x0,x1,x2,xf⟩:=boxC_cells (heap_alloc_new w2 (.cells #[.slice a2 n c2,.int .i64 rt0,.int .i64 ln0] 27))
  obtain⟨z0,z1,z2,zf⟩:=boxC_cells (heap_alloc_new w2 (.cells #[.slice a2 n c2,.int .i64 (rr:Int),.int .i64 ln0] 27))
  obtain⟨y0,y1,y2,yz⟩:=boxC_cells (HB0.out _ HE3.out).1
  have yz0:=yz 0
  have yz1:=yz 1
  have yz2:=yz 2
  have xf1:=xf 1
  clear h0 hp0 hTl yz xf zf hrr hrn
  go_wp2_with fail
  have hb3:=set3 (x:=.slice a2 n c2) (y:=.int .i64 (rr:Int)) (z:=.int .i64 ln0) (HB0.out _ HE3.out).1
  obtain⟨u0,u1,u2,_⟩:=boxC_cells hb3
  have hn2:=(HB0.out _ HE3.out).2
  have hne:∀ (o:Nat),(Value.slice a2 n c2).ownBlock≠some (⟨w.heap.size,o,none⟩:Addr).block:=fun o e'=>by
   have h1:=HOl.out _ e'
   have h2:=HZa.out
   have h3:(⟨w.heap.size,o,none⟩:Addr).block=w.heap.size:=rfl
   omega
  refine bodyPost_ret (v:=refV (.slice a2 n c2) (rr:Int) ln0) ?_ rfl ⟨Tn,(rr:Int),ln0,HTp.out,?_,?_,(by have:=HLn.out;split at this <;> omega),a2,c2,by rw[HTn.out],?_,?_⟩
  ·simp[results,Tryz.results19,go_sem,u0,u1,u2,refV]
  ·have h2:=HLn.out
   rw[if_neg HP0.out] at h2
   have h3:=HTn.out
   have h4:=HTl.out
   have h5:=HRn.out
   exact⟨by omega,by omega,by omega,by omega,Or.inr ⟨by omega,by omega⟩⟩
  ·rw[HTn.out];exact HTl.out
  ·exact (((HEa.out.trans HE3.out).setCell (p:=⟨w.heap.size,0,none⟩) (Nat.le_refl _) hn2 _).setCell (p:=⟨w.heap.size,1,none⟩) (Nat.le_refl _) hn2 _).setCell (p:=⟨w.heap.size,2,none⟩) (Nat.le_refl _) hn2 _
  ·rw[HTn.out]
   exact (((((HO2.out.alloc _).mono (Nat.le_trans (Nat.le_trans (by have:=HZa.out;omega) HE1.out.size) (Nat.le_refl _))).setCell (hne 0) _).setCell (hne 1) _).setCell (hne 2) _)
end
end Go.Proofs.YtgphnkkdmlohlaaGreatDoor
