/- ScriptDoes. -/
import Derived.Test.YtklkgicjfnbndaaGreatZScriptDoes51
import Derived.Test.YtklkgicjfnbndaaGreatZScriptDoes49
import Derived.Test.YtklkgicjfnbndaaGreatZScriptDoes31
namespace Go.Proofs.YtklkgicjfnbndaaGreat
open Go.RowKit Lib
set_option linter.unusedVariables false
set_option linter.unusedSimpArgs false
set_option maxRecDepth 100000 in
set_option maxHeartbeats 4000000 in
theorem scriptDoes_walk (w:World) (n:Nat) (hn:n≤255) (v:Value) (bs:List Nat) (hv:FreeB noReg w v bs) (root:Nat) (hr:root≤255) (pl:Bool) (k D E:Int) (hD:D<9223372036854775808):
  Calls Tryz.prog 7 #[.int .u8 (n:Int),v,.int .u8 (root:Int),.bool pl,.agg #[.int .i64 k,.int .i64 D,.int .i64 E]] w (RetTrue noReg w):=by
 have he0:Ev noReg w noReg (w.alloc (.cells #[.int .i64 k,.int .i64 D,.int .i64 E] 50)):=(Ev.refl (Inv.noReg w)).alloc _
 have hB0:=fun R' w' (h:Ev noReg (w.alloc (.cells #[.int .i64 k,.int .i64 D,.int .i64 E] 50)) R' w')=>h.boxC3 (heap_alloc_new w (.cells #[.int .i64 k,.int .i64 D,.int .i64 E] 50)) rfl
 have hA:=awake24_any noReg _ he0.inv
 have HAn:=hid (fun R' w' (h:Ev noReg w R' w')=>rany_any R' w' h.inv (n % 9) (by omega) v bs (hv.ev h) root hr)
 simp only[show ((n % 9:Nat):Int)=(n:Int) % 9 from by omega] at HAn
 have HPl:=hid (fun R' w' (h:Ev noReg w R' w')=>r12plane_any R' w' h.inv (n % 12) (by omega) v bs (hv.ev h) root hr)
 simp only[show ((n % 12:Nat):Int)=(n:Int) % 12 from by omega] at HPl
 obtain⟨a0,c0,rfl,_,_⟩:=hv
 go_enter Tryz.func7,Tryz.ntmps7
 obtain⟨wa,hwa⟩:∃ wa,w.alloc (.cells #[.int .i64 k,.int .i64 D,.int .i64 E] 50)=wa:=⟨_,rfl⟩
 go_upto_region 1 with fail
 rw[hwa] at he0 hB0 hA
 try rw[hwa]
 have HB0:=hid hB0
 have HE0:=hid he0
 have HA:=hid hA
 clear he0 hB0 hA hwa
 go_wp2_with fail
 refine HA.out.mono ?_
 rintro e w1 ⟨rfl,R1,he1⟩
 have HE1:=hid (HE0.out.trans he1)
 have HBa:=hid (fun R' w' (h:Ev R1 w1 R' w')=>HB0.out R' w' (he1.trans h))
 have hRa:=HAn.out _ _ HE1.out
 have HRa:=hid hRa
 clear he1 hRa
 go_wp2_with fail
 refine HRa.out.mono ?_
 rintro e w2 ⟨a2,c2,rfl,he2,ho2⟩
 have hS:=mixL_perm (2*(n % 9)) bs
 have hok:=made_ok (n % 9) root bs 0 (by omega) (by omega)
 have hsl:(mixL (2*(n % 9)) bs).length≤24:=by rw[mixL_length];omega
 obtain⟨s0,hs0⟩:∃ s0,mixL (2*(n % 9)) bs=s0:=⟨_,rfl⟩
 obtain⟨r0,hr0⟩:∃ r0,anyRoot (n % 9) root=r0:=⟨_,rfl⟩
 rw[hs0,hr0] at hok
 rw[hs0] at hS hsl ho2 ⊢
 rw[hr0]
 unfold refV
 have hbx:(w2.alloc (.cells #[.slice a2 s0.length c2,.int .i64 r0,.int .i64 0] 27)).heap[w2.heap.size]?=some (.cells #[.slice a2 s0.length c2,.int .i64 r0,.int .i64 0] 27 (0,0)):=heap_alloc_new w2 _
 have hnx:R1 w2.heap.size=none:=he2.inv.none_of_ge (Nat.le_refl _)
 have hne:∀ k,(Value.slice a2 s0.length c2).ownBlock=some k→k≠w2.heap.size:=fun k hk=>Nat.ne_of_lt (ho2.lt k hk).2
 have hb3:w1.heap.size≤w2.heap.size:=he2.size
 have hf2:=(ho2.alloc (.cells #[.slice a2 s0.length c2,.int .i64 r0,.int .i64 0] 27)).free
 have he3:=he2.alloc (.cells #[.slice a2 s0.length c2,.int .i64 r0,.int .i64 0] 27)
 go_upto_if 26 with fail
 obtain⟨b,hb⟩:∃ b,w2.heap.size=b:=⟨_,rfl⟩
 have hzw:(w2.alloc (.cells #[.slice a2 s0.length c2,.int .i64 r0,.int .i64 0] 27)).heap.size=b+1:=by rw[←hb];simp
 obtain⟨w3,hw3⟩:∃ x,w2.alloc (.cells #[.slice a2 s0.length c2,.int .i64 r0,.int .i64 0] 27)=x:=⟨_,rfl⟩
 rw[hw3] at hbx hf2 he3 hzw
 try rw[hw3]
 rw[hb] at hbx hnx hne hb3
 try rw[hb]
 have HZw:=hid hzw
 have HBx:=hid hbx
 have HNx:=hid hnx
 have HNe:=hid hne
 have HE3:=hid he3
 have HF2:=hid hf2
 have HS:=hid hS
 have HOk:=hid hok
 clear hbx hnx hne he3 hf2 hS hok he2 ho2 hw3 hzw hb hs0 hr0 HRa HA HAn
 go_cut [] (fun wx=>Ev R1 w1 R1 wx∧∃ (s:List Nat) (rt ln:Int) (a:Option Addr) (c:Nat),wx.heap[b]?=some (.cells #[.slice a s.length c,.int .i64 rt,.int .i64 ln] 27 (0,0))∧FreeI R1 wx (.slice a s.length c) (toI s)∧IsPerm s∧MapOk s rt ln∧s.length≤24∧ln≤1)
 case first=>
  cases pl with
  | false=>
   go_wp2_with fail
   go_meet
   exact⟨HE3.out,s0,r0,0,a2,c2,HBx.out,HF2.out,HS.out,HOk.out,hsl,by omega⟩
  | true=>
   have hpl:=HPl.out _ _ (HE1.out.trans HE3.out)
   have HPc:=hid hpl
   clear hpl HPl
   go_wp2_with fail
   refine HPc.out.mono ?_
   rintro e w4 ⟨Tn,rt,ln,hTp,hTok,hTl,hTq,a4,c4,rfl,he4,ho4⟩
   have hb4:=(he4.block b (by rw[HZw.out];omega) HNx.out).trans HBx.out
   obtain⟨x0,x1,x2,xf⟩:=boxC_cells hb4
   have xf0:=xf 0
   have xf1:=xf 1
   have xf2:=xf 2
   have hn4:∀ o,(Value.slice a4 Tn.length c4).ownBlock≠some (⟨b,o,none⟩:Addr).block:=fun o e'=>by
    have h1:=(ho4.lt _ e').1
    have h2:=HZw.out
    have h3:(⟨b,o,none⟩:Addr).block=b:=rfl
    omega
   have HB4:=hid hb4
   have HE4:=hid (HE3.out.trans he4)
   have HO4:=hid ho4
   have HTk:=hid hTok
   have HTp:=hid hTp
   have HTl:=hid hTl
   unfold refV
   clear hb4 he4 ho4 hTok hTp hTl xf
   go_wp2_with fail
   go_meet
   refine⟨((HE4.out.setCell (p:=⟨b,0,none⟩) hb3 HNx.out _).setCell (p:=⟨b,1,none⟩) hb3 HNx.out _).setCell (p:=⟨b,2,none⟩) hb3 HNx.out _,Tn,rt,ln,a4,c4,set3 HB4.out,?_,HTp.out,HTk.out,by have:=HTl.out;omega,hTq⟩
   exact (((HO4.out.setCell (hn4 0) _).setCell (hn4 1) _).setCell (hn4 2) _).free
 case rest=>
  obtain⟨hev,s,rt,ln,a,c,hbx,hfr,hsp,hsok,hsl,hlq⟩:=hcut
  obtain⟨lone,rfl⟩:∃ n:Nat,ln=(n:Int):=⟨ln.toNat,by have:=hsok.2.2.1;omega⟩
  have HX:=hid (fun R' w' (h:Ev R1 wc R' w')=>boxC_cells ((h.block b (lt_of_block hbx) HNx.out).trans hbx))
  have HAc:=hid (fun R' w' (h:Ev R1 wc R' w')=>boxC_cells (HBa.out R' w' (hev.trans h)).1)
  have HNw:=hid (new_yes R1 wc hev.inv _ s hfr rt (lone:Int) hsp hsok)
  have HI:=hid hev.inv
  have HEc:=hid (HE1.out.trans hev)
  have HF:=hid hfr
  have HSp:=hid hsp
  have HOk:=hid hsok
  have hl1:lone≤60000:=by omega
  obtain⟨x0,x1,x2,_⟩:=HX.out _ _ (Ev.refl HI.out)
  clear hev hbx hfr hsp hsok
  go_wp2_with fail
  refine HNw.out.mono ?_
  rintro e wd ⟨p,R2,rfl,hed,hp⟩
  have HDo:=hid (sdo_any R2 wd hed.inv p s rt lone hp k D E hD hl1)
  have HEd:=hid hed
  have HP:=hid hp
  obtain⟨a0',a1',a2',_⟩:=HAc.out _ _ hed
  clear hed hp HNw x0 x1 x2
  go_wp2_with fail
  refine HDo.out.mono ?_
  rintro e we ⟨o,R3,rfl,heo,hon,hom⟩
  have hd:=r24do_any R3 we heo.inv _ s rt (lone:Int) ((HF.out.ev HEd.out).ev heo) HSp.out (by omega) HOk.out k D E
   (fun _ j _ hj=>by have:=(starL_grown HSp.out HOk.out.1 hj).2;omega)
   (fun j hj h5 h1 h2=>way_err HSp.out HOk.out (by omega) h5 h1 h2)
  unfold refV at hd
  have HRd:=hid hd
  have HEo:=hid heo
  have HOn:=hid hon
  have HOm:=hid hom
  have HP3:=hid (heo.map HP.out)
  obtain⟨x0,x1,x2,_⟩:=HX.out _ _ (HEd.out.trans heo)
  obtain⟨a0',a1',a2',_⟩:=HAc.out _ _ (HEd.out.trans heo)
  clear hd heo hon hom HP HDo
  go_wp2_with fail
  refine HRd.out.mono ?_
  rintro e wf ⟨y,rfl,hef,hfy,hyb⟩
  obtain⟨C,hC⟩:∃ C,actC s rt (lone:Int) k D E=C:=⟨_,rfl⟩
  obtain⟨M,hM⟩:∃ M,actM s rt k D E=M:=⟨_,rfl⟩
  obtain⟨rt',hrt'⟩:∃ x,actRt s rt k D=x:=⟨_,rfl⟩
  obtain⟨ln',hln'⟩:∃ x,actLn s (lone:Int) k D=x:=⟨_,rfl⟩
  have HHon:=HOn.out
  have HHom:=HOm.out
  rw[hC] at HHon HHom hfy ⊢
  rw[hM] at HHom hfy
  rw[hrt',hln'] at HHom ⊢
  obtain⟨L,hL⟩:∃ L,(if C=0 then M else s)=L:=⟨_,rfl⟩
  obtain⟨Lr,hLr⟩:∃ x,(if C=0 then rt' else rt)=x:=⟨_,rfl⟩
  obtain⟨Ll,hLl⟩:∃ x,(if C=0 then ln' else (lone:Int))=x:=⟨_,rfl⟩
  rw[hL] at hfy
  rw[hLr,hLl]
  obtain⟨ay,cy,rfl,hfy'⟩:=hfy.open
  clear hfy'
  rw[toI_length] at hfy ⊢
  have HOm:=hid HHom
  have HOn:=hid HHon
  have HL:=hid hL
  have HLr:=hid hLr
  have HLl:=hid hLl
  clear HHom HHon HRd hL hLr hLl hC hM hrt' hln' hyb
  have HEf:=hid hef
  have HFy:=hid hfy
  have HP4:=hid (hef.map HP3.out)
  clear hef hfy HP3 x0 x1 x2
  unfold refV
  have hby:=heap_alloc_new wf (.cells #[.slice ay L.length cy,.int .i64 Lr,.int .i64 Ll] 27)
  have heb:Ev R3 wf R3 (wf.alloc (.cells #[.slice ay L.length cy,.int .i64 Lr,.int .i64 Ll] 27)):=(Ev.refl HEf.out.inv).alloc _
  have hnone:R3 wf.heap.size=none:=HEf.out.inv.none_of_ge (Nat.le_refl _)
  go_upto_region 9 with fail
  obtain⟨w5,hw5⟩:∃ x,(wf.alloc (.cells #[.slice ay L.length cy,.int .i64 Lr,.int .i64 Ll] 27))=x:=⟨_,rfl⟩
  obtain⟨b5,hb5⟩:∃ x,wf.heap.size=x:=⟨_,rfl⟩
  have hlt5:b5<w5.heap.size:=by rw[←hw5,←hb5];simp
  try rw[hw5]
  try rw[hb5]
  rw[hw5,hb5] at hby
  rw[hw5] at heb
  rw[hb5] at hnone
  have HE5:=hid heb
  have HEx:=hid ((HEd.out.trans HEo.out).trans (HEf.out.trans heb))
  have HSa:=hid (fun R' w' (h:Ev R3 w5 R' w')=>(by
   have hb:w'.heap[b5]?=some (.cells #[.slice ay L.length cy,.int .i64 Lr,.int .i64 Ll] 27 (0,0)):=(h.block _ hlt5 hnone).trans hby
   obtain⟨y0,y1,y2,_⟩:=boxC_cells hb
   exact⟨(HX.out R' w' (HEx.out.trans h)).1,y0,y1,y2⟩:(fun w':World=>w'.cell? ⟨b,0,none⟩=some (.slice a s.length c)∧w'.cell? ⟨b5,0,none⟩=some (.slice ay L.length cy)∧w'.cell? ⟨b5,1,none⟩=some (.int .i64 Lr)∧w'.cell? ⟨b5,2,none⟩=some (.int .i64 Ll)) w'))
  have HF5:=hid (HF.out.ev HEx.out)
  have HY5:=hid (HFy.out.ev heb)
  have HM5:=hid (heb.map HP4.out)
  have HOp:=hid (fun h:C=0=>(HEf.out.trans heb).map (HOm.out h))
  have HEw:=hid (HEc.out.trans HEx.out)
  clear hby heb hnone hlt5 hw5 hb5 HF HFy HP4
  have HEd':=hid ((Ev.refl HE5.out.inv).drew)
  as_aux_lemma=>
   refine wp_region_held_drew (S:=(fun w':World=>w'.cell? ⟨b,0,none⟩=some (.slice a s.length c)∧w'.cell? ⟨b5,0,none⟩=some (.slice ay L.length cy)∧w'.cell? ⟨b5,1,none⟩=some (.int .i64 Lr)∧w'.cell? ⟨b5,2,none⟩=some (.int .i64 Ll))) (by kernel_rfl) (HSa.out _ _ HEd'.out) (fun hHeld=>?_)
   refine tk 0 (v:=?c0) ?d0 ?_
   case d0=>(intro w' ⟨x,y,z,u⟩;go_simp;try rfl)
   try simp only[Act.put,rd]
   refine tk 1 (v:=?c1) ?d1 ?_
   case d1=>(intro w' ⟨x,y,z,u⟩;go_simp;try rfl)
   try simp only[Act.put,rd]
   refine tk 2 (v:=.bool false) ?d2 ?_
   case d2=>(intro w' ⟨x,y,z,u⟩;go_simp;try rfl)
   try simp only[Act.put,rd]
   refine tk 3 (v:=.bool false) ?d3 ?_
   case d3=>(intro w' ⟨x,y,z,u⟩;go_simp;try rfl)
   try simp only[Act.put,rd]
   refine tk 4 (v:=?c4) ?d4 ?_
   case d4=>(intro w' ⟨x,y,z,u⟩;go_simp;try rfl)
   try simp only[Act.put,rd]
   refine tk 6 (v:=?c6) ?d6 ?_
   case d6=>(intro w' ⟨x,y,z,u⟩;go_simp;try rfl)
   try simp only[Act.put,rd]
   refine tk 7 (v:=?c7) ?d7 ?_
   case d7=>(intro w' ⟨x,y,z,u⟩;go_simp;try rfl)
   try simp only[Act.put,rd]
   refine nx 5 fun K hK=>?_
   go_simp
   refine (mlist_any R3 w5.drew HEd'.out.inv p s rt (lone:Int) (HEd'.out.map HM5.out)).mono ?_
   rintro z w6 ⟨v6,rfl,he6,ho6⟩
   obtain⟨a8,c8,rfl,_⟩:=ho6.ints.open
   rw[toI_length] at ho6 ⊢
   have HG6:=hid (HEd'.out.trans he6)
   have HO6:=hid ho6
   clear he6 ho6
   go_simp
   refine hK.out _ _ (HSa.out _ _ HG6.out) (fun hHeld6=>?_)
   clear hHeld
   refine nx 8 fun K hK=>?_
   go_simp
   refine (equal_any R3 w6 HG6.out.inv _ _ (toI s) (toI s) HO6.out.ints (HF5.out.ev HG6.out).1 (by rw[toI_length];omega) (by rw[toI_length];omega)).mono ?_
   rintro z w7 ⟨rfl,he7⟩
   rw[show eqL (toI s) (toI s)=true from by simp[eqL]]
   have HG7:=hid (HG6.out.trans he7)
   clear he7
   go_simp
   refine hK.out _ _ (HSa.out _ _ HG7.out) (fun hHeld7=>?_)
   clear hHeld6
   refine tk 9 (v:=.bool false) ?d9 ?_
   case d9=>(intro w' ⟨x,y,z,u⟩;go_simp;try rfl)
   try simp only[Act.put,rd]
   refine tk 10 (v:=.bool false) ?d10 ?_
   case d10=>(intro w' ⟨x,y,z,u⟩;go_simp;try rfl)
   try simp only[Act.put,rd]
   refine wpAnyH_done (by kernel_rfl) ?_ _
   clear hHeld7
   by_cases hC:C=0
   ·have hc1:(C != 0)=false:=by rw[hC];rfl
    have hc2:(C == 0)=true:=by rw[hC];rfl
    as_aux_lemma=>
     obtain rfl:M=L:=by have:=HL.out;rw[if_pos hC] at this;exact this
     obtain rfl:rt'=Lr:=by have:=HLr.out;rw[if_pos hC] at this;exact this
     obtain rfl:ln'=Ll:=by have:=HLl.out;rw[if_pos hC] at this;exact this
     have HOz:=hid (HOp.out hC)
     have HOq:=hid (HG7.out.map (HOp.out hC))
     have hI7:=HG7.out.inv
     have hMl:M.length≤4194304:=by
      have h1:=(HOq.out.ok HG7.out.inv).2
      unfold MapOk at h1
      omega
     have HEg:=hid ((Ev.refl HG7.out.inv).drew)
     have HG8:=hid (HG7.out.trans HEg.out)
     have HEy:=HEw
     clear HL HLr HLl HOp HOn HOm hC
     go_upto_region 13 with fail
     refine wp_region_held_drew (S:=(fun w':World=>w'.cell? ⟨b,0,none⟩=some (.slice a s.length c)∧w'.cell? ⟨b5,0,none⟩=some (.slice ay M.length cy)∧w'.cell? ⟨b5,1,none⟩=some (.int .i64 rt')∧w'.cell? ⟨b5,2,none⟩=some (.int .i64 ln'))) (by kernel_rfl) (HSa.out _ _ HG8.out) (fun hHeld=>?_)
     refine tk 0 (v:=?cz0) ?dz0 ?_
     case dz0=>(intro w' ⟨x,y,z,u⟩;go_simp;try rfl)
     try simp only[Act.put,rd]
     refine tk 2 (v:=?cz2) ?dz2 ?_
     case dz2=>(intro w' ⟨x,y,z,u⟩;go_simp;try rfl)
     try simp only[Act.put,rd]
     refine tk 3 (v:=?cz3) ?dz3 ?_
     case dz3=>(intro w' ⟨x,y,z,u⟩;go_simp;try rfl)
     try simp only[Act.put,rd]
     refine nx 1 fun K hK=>?_
     go_simp
     refine (mlist_any R3 w7.drew HEg.out.inv o M rt' ln' (HEg.out.map HOq.out)).mono ?_
     rintro z w8 ⟨v8,rfl,he8,ho8⟩
     obtain⟨a9,c9,rfl,_⟩:=ho8.ints.open
     rw[toI_length] at ho8 ⊢
     have HG9:=hid (HG8.out.trans he8)
     have HO8:=hid ho8
     clear he8 ho8
     go_simp
     refine hK.out _ _ (HSa.out _ _ HG9.out) (fun hHeld9=>?_)
     clear hHeld
     refine nx 4 fun K hK=>?_
     go_simp
     refine (equal_any R3 w8 HG9.out.inv _ _ (toI M) (toI M) HO8.out.ints (HY5.out.ev HG9.out).1 (by rw[toI_length];omega) (by rw[toI_length];omega)).mono ?_
     rintro z w9 ⟨rfl,he9⟩
     rw[show eqL (toI M) (toI M)=true from by simp[eqL]]
     have HG10:=hid (HG9.out.trans he9)
     clear he9
     go_simp
     refine hK.out _ _ (HSa.out _ _ HG10.out) (fun hHeld10=>?_)
     clear hHeld9
     refine tk 5 (v:=.bool true) ?dz5 ?_
     case dz5=>(intro w' ⟨x,y,z,u⟩;go_simp;try rfl)
     try simp only[Act.put,rd]
     refine tk 6 (v:=?cz6) ?dz6 ?_
     case dz6=>(intro w' ⟨x,y,z,u⟩;go_simp;try rfl)
     try simp only[Act.put,rd]
     refine tk 8 (v:=?cz8) ?dz8 ?_
     case dz8=>(intro w' ⟨x,y,z,u⟩;go_simp;try rfl)
     try simp only[Act.put,rd]
     refine tk 9 (v:=?cz9) ?dz9 ?_
     case dz9=>(intro w' ⟨x,y,z,u⟩;go_simp;try rfl)
     try simp only[Act.put,rd]
     refine nx 7 fun K hK=>?_
     go_simp
     refine (root_any R3 w9 HG10.out.inv o M rt' ln' (HG10.out.map HOz.out)).mono ?_
     rintro z w10 ⟨rfl,rfl⟩
     have HG11:=HG10
     go_simp
     refine hK.out _ _ (HSa.out _ _ HG11.out) (fun hHeld11=>?_)
     clear hHeld10
     refine tk 10 (v:=.bool true) ?dz10 ?_
     case dz10=>(intro w' ⟨x,y,z,u⟩;go_simp;try rfl)
     try simp only[Act.put,rd]
     refine tk 11 (v:=.bool true) ?dz11 ?_
     case dz11=>(intro w' ⟨x,y,z,u⟩;go_simp;try rfl)
     try simp only[Act.put,rd]
     refine tk 12 (v:=.bool true) ?dz12 ?_
     case dz12=>(intro w' ⟨x,y,z,u⟩;go_simp;try rfl)
     try simp only[Act.put,rd]
     refine tk 13 (v:=?cz13) ?dz13 ?_
     case dz13=>(intro w' ⟨x,y,z,u⟩;go_simp;try rfl)
     try simp only[Act.put,rd]
     refine tk 15 (v:=?cz15) ?dz15 ?_
     case dz15=>(intro w' ⟨x,y,z,u⟩;go_simp;try rfl)
     try simp only[Act.put,rd]
     refine tk 16 (v:=?cz16) ?dz16 ?_
     case dz16=>(intro w' ⟨x,y,z,u⟩;go_simp;try rfl)
     try simp only[Act.put,rd]
     refine nx 14 fun K hK=>?_
     go_simp
     refine (lone_any R3 w9 HG10.out.inv o M rt' ln' (HG10.out.map HOz.out)).mono ?_
     rintro z w10 ⟨rfl,rfl⟩
     have HG12:=HG10
     go_simp
     refine hK.out _ _ (HSa.out _ _ HG12.out) (fun hHeld12=>?_)
     clear hHeld11
     refine tk 17 (v:=.bool true) ?dz17 ?_
     case dz17=>(intro w' ⟨x,y,z,u⟩;go_simp;try rfl)
     try simp only[Act.put,rd]
     refine tk 18 (v:=.bool true) ?dz18 ?_
     case dz18=>(intro w' ⟨x,y,z,u⟩;go_simp;try rfl)
     try simp only[Act.put,rd]
     refine tk 19 (v:=.bool true) ?dz19 ?_
     case dz19=>(intro w' ⟨x,y,z,u⟩;go_simp;try rfl)
     try simp only[Act.put,rd]
     refine wpAnyH_done (by kernel_rfl) ?_ _
     clear hHeld12
     go_wp2_with fail
     go_ret
     exact⟨by first|rfl|simp,R3,HEw.out.trans HG10.out⟩
   ·have hc1:(C != 0)=true:=bne_iff_ne.2 hC
    have hc2:(C == 0)=false:=beq_eq_false_iff_ne.2 hC
    have ho:=HOn.out hC
    subst ho
    clear hC
    go_wp2_with fail
    go_ret
    exact⟨by first|rfl|simp,R3,HEw.out.trans HG7.out⟩
end Go.Proofs.YtklkgicjfnbndaaGreat
