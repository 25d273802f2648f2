/- parquetryref24.Play: act by act, what script.Play does. Conditions: at most 75 bytes. ScriptPlays. -/
import Derived.Test.YtklkgicjfnbndaaGreatZScriptPlays49
import Derived.Test.YtklkgicjfnbndaaGreatZScriptPlays51
import Derived.Test.YtklkgicjfnbndaaGreatZScriptPlays36
import Derived.Test.YtklkgicjfnbndaaGreatZScriptPlays31
import Derived.Deep.RegionHeld
import Derived.Test.YtklkgicjfnbndaaGreatZScriptPlays20
namespace Go.Proofs.YtklkgicjfnbndaaGreat
section
open Go.RowKit
set_option linter.unusedVariables false
set_option linter.unusedSimpArgs false
structure PlSt (R:Reg) (w:World) (b2 b4:Nat) (a1:Option Addr) (n c1:Nat) (s:List Nat) (root lone:Int):Prop where
 h2:w.heap[b2]?=some (.cells #[.slice none 0 0,.int .i64 0,.int .i64 0] 27 (0,0))
 h4:w.heap[b4]?=some (.cells #[.slice a1 n c1,.int .i64 root,.int .i64 lone] 27 (0,0))
 r2:R b2=none
 r4:R b4=none
 lt2:b2<w.heap.size
 lt4:b4<w.heap.size
 fr:FreeI R w (.slice a1 n c1) (toI s)
 len:s.length=n
 ne:∀ k,(Value.slice a1 n c1).ownBlock=some k→k≠b2∧k≠b4∧k<w.heap.size
 bb:b2≠b4
theorem PlSt.ev {R:Reg} {w w':World} {b2 b4:Nat} {a1:Option Addr} {n c1:Nat} {s:List Nat} {root lone:Int} (h:PlSt R w b2 b4 a1 n c1 s root lone) (he:Ev R w R w'):PlSt R w' b2 b4 a1 n c1 s root lone:=
 ⟨(he.block _ h.lt2 h.r2).trans h.h2,(he.block _ h.lt4 h.r4).trans h.h4,h.r2,h.r4,Nat.lt_of_lt_of_le h.lt2 he.size,Nat.lt_of_lt_of_le h.lt4 he.size,h.fr.ev he,h.len,fun k hk=>⟨(h.ne k hk).1,(h.ne k hk).2.1,Nat.lt_of_lt_of_le (h.ne k hk).2.2 he.size⟩,h.bb⟩
theorem PlSt.put {R:Reg} {w:World} {b2 b4:Nat} {a1:Option Addr} {n c1:Nat} {s:List Nat} {root lone:Int} (h:PlSt R w b2 b4 a1 n c1 s root lone) {a6:Option Addr} {n6 c6:Nat} {M:List Nat} (hf:FreeI R w (.slice a6 n6 c6) (toI M)) (hl:M.length=n6) (hne:∀ k,(Value.slice a6 n6 c6).ownBlock=some k→k≠b2∧k≠b4∧k<w.heap.size) (rt ln:Int):
  PlSt R (((w.setCell ⟨b4,0,none⟩ (.slice a6 n6 c6)).setCell ⟨b4,1,none⟩ (.int .i64 rt)).setCell ⟨b4,2,none⟩ (.int .i64 ln)) b2 b4 a6 n6 c6 M rt ln:=by
 have hb:∀ (o:Nat) (u:Value) (W:World),(W.setCell ⟨b4,o,none⟩ u).heap[b2]?=W.heap[b2]?:=fun o u W=>Below.heap_setCell _ _ _ _ (fun e=>h.bb e)
 have hq:∀ (o:Nat),(Value.slice a6 n6 c6).ownBlock≠some (⟨b4,o,none⟩:Addr).block:=fun o e=>(hne _ e).2.1 rfl
 refine⟨?_,set3 h.h4,h.r2,h.r4,by simp;exact h.lt2,by simp;exact h.lt4,((hf.setCell (hq 0) _).setCell (hq 1) _).setCell (hq 2) _,hl,fun k hk=>by simp;exact hne k hk,h.bb⟩
 rw[hb,hb,hb]
 exact h.h2
theorem FreeI.grown {R:Reg} {w w':World} {row:Option Nat} {v:Value} {xs:List Int} (h:FreeI R w v xs) (hg:w.grownBy w' row) (hx:∀ k,v.ownBlock=some k→row≠some k):FreeI R w' v xs:=by
 obtain⟨⟨a',cap,h1,h2,h3,h4⟩,hfr⟩:=h
 refine⟨⟨a',cap,h1,h2,h3,fun i hi=>?_⟩,hfr⟩
 obtain⟨b,off,e2,hc⟩:=h4 i hi
 subst e2
 refine⟨b,off,rfl,?_⟩
 have hb2:=hg.block b (lt_of_cell hc) (fun e3=>hx b (by rw[h1];rfl) e3.symm)
 simp only[World.cell?,hb2] at hc ⊢
 exact hc
theorem PlSt.grown {R:Reg} {w w':World} {b2 b4:Nat} {a1:Option Addr} {n c1:Nat} {s:List Nat} {root lone:Int} (h:PlSt R w b2 b4 a1 n c1 s root lone) {row:Option Nat} (hg:w.grownBy w' row) (hx:∀ k,(Value.slice a1 n c1).ownBlock=some k→row≠some k) (h2:row≠some b2) (h4:row≠some b4):PlSt R w' b2 b4 a1 n c1 s root lone:=
 ⟨(hg.block _ h.lt2 (fun e=>h2 e.symm)).trans h.h2,(hg.block _ h.lt4 (fun e=>h4 e.symm)).trans h.h4,h.r2,h.r4,Nat.lt_of_lt_of_le h.lt2 hg.size,Nat.lt_of_lt_of_le h.lt4 hg.size,h.fr.grown hg hx,h.len,fun k hk=>⟨(h.ne k hk).1,(h.ne k hk).2.1,Nat.lt_of_lt_of_le (h.ne k hk).2.2 hg.size⟩,h.bb⟩
def RetPlayR (R:Reg) (w:World) (q:(List Nat × Int × Int) × List Int) (z:Ending) (w2:World):Prop:=
 ∃ v o,z=.returned (.tuple #[refV v q.1.2.1 q.1.2.2,o])∧Ev R w R w2∧FreeI R w2 v (toI q.1.1)∧OwnI R w.heap.size 3 w2 o q.2
theorem PlSt.start {R:Reg} {w:World} (hI:Inv R w):PlSt R (((w.alloc (.cells #[.slice none 0 0,.int .i64 0,.int .i64 0] 27)).alloc (.cells #[.int .i64 0,.int .i64 1] 3)).alloc (.cells #[.slice (some ⟨w.heap.size+1,0,none⟩) 2 2,.int .i64 0,.int .i64 0] 27)) w.heap.size (w.heap.size+1+1) (some ⟨w.heap.size+1,0,none⟩) 2 2 [0,1] 0 0 ∧
  Ev R w R (((w.alloc (.cells #[.slice none 0 0,.int .i64 0,.int .i64 0] 27)).alloc (.cells #[.int .i64 0,.int .i64 1] 3)).alloc (.cells #[.slice (some ⟨w.heap.size+1,0,none⟩) 2 2,.int .i64 0,.int .i64 0] 27)):=by
 have he0:Ev R w R (w.alloc (.cells #[.slice none 0 0,.int .i64 0,.int .i64 0] 27)):=(Ev.refl hI).alloc _
 have he1:Ev R (w.alloc (.cells #[.slice none 0 0,.int .i64 0,.int .i64 0] 27)) R ((w.alloc (.cells #[.slice none 0 0,.int .i64 0,.int .i64 0] 27)).alloc (.cells #[.int .i64 0,.int .i64 1] 3)):=(Ev.refl he0.inv).alloc _
 have he2:Ev R ((w.alloc (.cells #[.slice none 0 0,.int .i64 0,.int .i64 0] 27)).alloc (.cells #[.int .i64 0,.int .i64 1] 3)) R (((w.alloc (.cells #[.slice none 0 0,.int .i64 0,.int .i64 0] 27)).alloc (.cells #[.int .i64 0,.int .i64 1] 3)).alloc (.cells #[.slice (some ⟨w.heap.size+1,0,none⟩) 2 2,.int .i64 0,.int .i64 0] 27)):=(Ev.refl he1.inv).alloc _
 have h2:=heap_alloc_new w (.cells #[.slice none 0 0,.int .i64 0,.int .i64 0] 27)
 have h4:=heap_alloc_new ((w.alloc (.cells #[.slice none 0 0,.int .i64 0,.int .i64 0] 27)).alloc (.cells #[.int .i64 0,.int .i64 1] 3)) (.cells #[.slice (some ⟨w.heap.size+1,0,none⟩) 2 2,.int .i64 0,.int .i64 0] 27)
 have hs1:(w.alloc (.cells #[.slice none 0 0,.int .i64 0,.int .i64 0] 27)).heap.size=w.heap.size+1:=by simp
 have hs2:((w.alloc (.cells #[.slice none 0 0,.int .i64 0,.int .i64 0] 27)).alloc (.cells #[.int .i64 0,.int .i64 1] 3)).heap.size=w.heap.size+1+1:=by simp
 rw[hs2] at h4
 have hn2:R w.heap.size=none:=hI.none_of_ge (Nat.le_refl _)
 have hf:=FreeI.two he0.inv 0 1
 rw[hs1] at hf
 refine⟨⟨?_,h4,hn2,hI.none_of_ge (by omega),by simp;omega,by simp,?_,rfl,fun k hk=>?_,by omega⟩,he0.trans (he1.trans he2)⟩
 ·exact ((he1.trans he2).block _ (by simp) hn2).trans h2
 ·exact hf.ev he2
 ·have:w.heap.size+1=k:=Option.some.inj hk
  exact⟨by omega,by omega,by simp;omega⟩
set_option maxRecDepth 100000 in
set_option maxHeartbeats 4000000 in
theorem r24play_any (R:Reg) (w:World) (hI:Inv R w) (a:Option Addr) (cap:Nat) (bs:List Nat) (hv:FreeB R w (.slice a bs.length cap) bs) (hlen:bs.length≤75):
  Calls Tryz.prog 41 #[.slice a bs.length cap] w (RetPlayR R w (playL (actsL bs))):=by
 obtain⟨l,hl⟩:∃ l,actsL bs=l:=⟨_,rfl⟩
 obtain⟨N,hN⟩:∃ N,bs.length=N:=⟨_,rfl⟩
 obtain⟨m,hm⟩:∃ m,l.length=m:=⟨_,rfl⟩
 have hlm:m=N / 3:=by rw[←hm,←hl,←hN];unfold actsL;rw[List.length_map,List.length_range]
 have hall:∀ i,i≤m→PlayP (playL (l.take i)).1 i:=by
  rw[←hm]
  exact play_all (by omega) (fun i hi=>by rw[←hl];exact actAt_le (by rw[hl];exact hi))
 have HAll:=Lib.hid hall
 have HL:=Lib.hid hl
 have HM:=Lib.hid hm
 have HN:=Lib.hid hN
 have HLm:=Lib.hid hlm
 rw[hN] at hlen
 have HB:=Lib.hid hv
 have HI:=Lib.hid hI
 have hRw:∀ k,w.heap.size≤k→R k=none:=fun k hk=>hI.none_of_ge hk
 have HRw:=Lib.hid hRw
 obtain⟨hst,hes⟩:=PlSt.start hI
 rw[hN,hl]
 clear hv hl hm hall hlm hI
 go_enter Tryz.func41,Tryz.ntmps41
 go_upto_region 2 with fail
 obtain⟨w1,hw1⟩:∃ w1,(((w.alloc (.cells #[.slice none 0 0,.int .i64 0,.int .i64 0] 27)).alloc (.cells #[.int .i64 0,.int .i64 1] 3)).alloc (.cells #[.slice (some ⟨w.heap.size+1,0,none⟩) 2 2,.int .i64 0,.int .i64 0] 27))=w1:=⟨_,rfl⟩
 try rw[hw1] at hst hes ⊢
 obtain⟨b2,hb2⟩:∃ b,w.heap.size=b:=⟨_,rfl⟩
 obtain⟨b4,hb4⟩:∃ b,b2+1+1=b:=⟨_,rfl⟩
 rw[hb2,hb4] at hst
 try rw[hb2]
 try rw[hb4]
 have HSt1:=Lib.hid hst
 have HE1:=Lib.hid hes
 have HB2:=Lib.hid hb2
 have HI1:=Lib.hid hes.inv
 have HB24:=Lib.hid hb4
 have HLt1:=Lib.hid (And.intro hst.lt2 hst.lt4)
 clear hst hes hw1 hb2 hb4
 go_wp2_with fail
 go_loopg [5,6] m (fun g v5 v6 wr=>∃ (i p:Nat) (a1:Option Addr) (n c1:Nat) (s:List Nat) (root lone:Int),i≤m∧m-i≤g∧p=3*i∧v6=.int .i64 (p:Int)∧Ev R w R wr∧PlSt R wr b2 b4 a1 n c1 s root lone∧(playL (l.take i)).1=(s,root,lone)∧OwnI R w1.heap.size 3 wr v5 (playL (l.take i)).2∧(∀ k,(Value.slice a1 n c1).ownBlock=some k→v5.ownBlock≠some k)∧w1.heap.size≤wr.heap.size)
 case atStart=>exact⟨0,0,_,2,2,[0,1],0,0,Nat.zero_le _,by omega,rfl,rfl,HE1.out,HSt1.out,rfl,OwnI.nil _ _ _ _,fun k _ e=>by simp[nilS,Value.ownBlock] at e,Nat.le_refl _⟩
 case round=>
  obtain⟨i,p,a1,n,c1,s,root,lone,hik,hg,hp,rfl,hev,hst,hpl,hov,hsep,hsz1⟩:=hrel
  have HE:=Lib.hid hev
  have HSt:=Lib.hid hst
  have HPl:=Lib.hid hpl
  have HOv:=Lib.hid hov
  have HIr:=Lib.hid hev.inv
  have HP:=Lib.hid hp
  have HSep:=Lib.hid hsep
  clear hsep
  have HSz1:=Lib.hid (show w1.heap.size≤wr.heap.size from hsz1)
  clear hsz1
  obtain⟨a5,c5,e5,_⟩:=hov.ints.open
  rename_i v5
  subst e5
  obtain⟨q,hq⟩:∃ q,(playL (l.take i)).2.length=q:=⟨_,rfl⟩
  try rw[hq]
  rw[hq] at HOv HSep
  have HQ:=Lib.hid hq
  have hqi:q=i:=by rw[←hq];exact playL_codes l i (by rw[HM.out];omega)
  have hqb:q≤100:=by have:=HLm.out;omega
  clear hq hqi
  have hpa:=HAll.out i hik
  rw[HPl.out] at hpa
  have HPa:=Lib.hid hpa
  obtain⟨p2,hp2⟩:∃ x,p+2=x:=⟨_,rfl⟩
  obtain⟨p3,hp3⟩:∃ x,p+3=x:=⟨_,rfl⟩
  have hpb:p≤75:=by have:=HLm.out;omega
  have hw2:IntKind.i64.wrap ((p:Int)+2)=(p2:Int):=by rw[show (p:Int)+2=(p2:Int) by omega];exact IntWalk.i64_in _ (by omega)
  have hw3:IntKind.i64.wrap ((p:Int)+3)=(p3:Int):=by rw[show (p:Int)+3=(p3:Int) by omega];exact IntWalk.i64_in _ (by omega)
  have HP3:=Lib.hid hp3
  clear hev hst hpl hov hpa hp3
  by_cases hi:i<m
  ·have hir:(p2:Int)<(N:Int):=by have:=HLm.out;omega
   have hp2N:p2<N:=by omega
   have hok:=HPa.out.ok
   have hplan:=HPa.out.plan
   have hgr:=HPa.out.grow
   have hlo:=HPa.out.lone
   try dsimp only at hok hplan hgr hlo
   have hi24:i≤24:=by have:=HLm.out;omega
   have hsl:s.length≤99000:=by have:=hgr.le (by omega);have:=hok.1;omega
   obtain⟨z0,z1,z2,_⟩:=boxC_cells HSt.out.h4
   have hfb:=HB.out.ev HE.out
   obtain⟨gb,ob,eb,_,u0,bd0⟩:=hfb.cell (i:=p) (by rw[HN.out];omega)
   obtain⟨gb',ob',eb',_,u1,bd1⟩:=hfb.cell (i:=p+1) (by rw[HN.out];omega)
   rw[eb] at eb'
   cases eb'
   obtain⟨gb',ob',eb',_,u2,bd2⟩:=hfb.cell (i:=p+2) (by rw[HN.out];omega)
   rw[eb] at eb'
   cases eb'
   subst eb
   have hAv:actAt l i=(at' bs p % 11,at' bs (p+1),at' bs (p+2)):=by
    rw[←HL.out]
    unfold actAt actsL
    rw[List.getD_eq_getElem?_getD,List.getElem?_map,List.getElem?_range (by rw[HN.out];have:=HLm.out;omega),HP.out]
    rfl
   have HCb:=Lib.hid (fun w' (h:Ev R wr R w')=>(by
    have hf:=HB.out.ev (HE.out.trans h)
    obtain⟨g,o,e,_,k0,_⟩:=hf.cell (i:=p) (by rw[HN.out];omega)
    obtain⟨g',o',e',_,k1,_⟩:=hf.cell (i:=p+1) (by rw[HN.out];omega)
    cases e;cases e'
    obtain⟨g',o',e',_,k2,_⟩:=hf.cell (i:=p+2) (by rw[HN.out];omega)
    cases e'
    exact⟨k0,k1,k2⟩:w'.cell? ⟨gb,ob+p,none⟩=some (.int .u8 ((at' bs p:Nat):Int))∧w'.cell? ⟨gb,ob+(p+1),none⟩=some (.int .u8 ((at' bs (p+1):Nat):Int))∧w'.cell? ⟨gb,ob+(p+2),none⟩=some (.int .u8 ((at' bs (p+2):Nat):Int))))
   obtain⟨f0,hf0⟩:∃ x,at' bs p=x:=⟨_,rfl⟩
   obtain⟨kd,hkd⟩:∃ x,at' bs (p+1)=x:=⟨_,rfl⟩
   obtain⟨ke,hke⟩:∃ x,at' bs (p+2)=x:=⟨_,rfl⟩
   rw[hf0,hkd,hke] at hAv HCb
   rw[hf0] at u0 bd0
   rw[hkd] at u1 bd1
   rw[hke] at u2 bd2
   have hv0:IntKind.i64.wrap (f0:Int)=(f0:Int):=IntWalk.i64_in _ (by omega)
   have hv1:IntKind.i64.wrap (kd:Int)=(kd:Int):=IntWalk.i64_in _ (by omega)
   have hv2:IntKind.i64.wrap (ke:Int)=(ke:Int):=IntWalk.i64_in _ (by omega)
   obtain⟨ka,hka⟩:∃ x,f0 % 11=x:=⟨_,rfl⟩
   rw[hka] at hAv
   have hr0:(f0:Int).tmod 11=(ka:Int):=by rw[←hka];rfl
   have hr0':(f0:Int) % 11=(ka:Int):=by rw[←hka];rfl
   obtain⟨N',hN'⟩:∃ N',max s.length 1=N':=⟨_,rfl⟩
   have hnl:=HSt.out.len
   have hnp:1≤N':=by omega
   obtain⟨dd,hdd⟩:∃ x,kd % N'=x:=⟨_,rfl⟩
   obtain⟨ee,hee⟩:∃ x,ke % N'=x:=⟨_,rfl⟩
   have hr1:(kd:Int).tmod (N':Int)=(dd:Int):=by rw[←hdd];rfl
   have hr2:(ke:Int).tmod (N':Int)=(ee:Int):=by rw[←hee];rfl
   have hr3:(kd:Int) % (N':Int)=(dd:Int):=by rw[←hdd];rfl
   have hr4:(ke:Int) % (N':Int)=(ee:Int):=by rw[←hee];rfl
   have hn0:¬ (N':Int)=0:=by omega
   have hn1:¬ N'=0:=by omega
   have hka10:ka≤10:=by omega
   have HStp:=Lib.hid (show stepP (playL (l.take i)).1 (actAt l i)=(if actC s root lone ka dd ee=0 then (actM s root ka dd ee,actRt s root ka dd,actLn s lone ka dd) else (s,root,lone),actC s root lone ka dd ee) by
    rw[HPl.out,hAv]
    unfold stepP
    dsimp only
    rw[hN',hdd,hee])
   have hdo:=fun w' (h:Ev R wr R w')=>r24do_any R w' h.inv (.slice a1 n c1) s root lone (HSt.out.fr.ev h) hplan.1 hsl hok (ka:Int) (dd:Int) (ee:Int)
    (fun _ D hD hDl=>(hgr.star hplan.1 hplan.2.1 hDl hi24).2)
    (fun j hj hj5 h1 h2=>(HPa.out.new hi24 hj5 dd ee h1 h2).2)
   obtain⟨C,hC⟩:∃ x,actC s root lone ka dd ee=x:=⟨_,rfl⟩
   obtain⟨M,hM⟩:∃ x,(if C=0 then actM s root ka dd ee else s)=x:=⟨_,rfl⟩
   obtain⟨rt,hrt⟩:∃ x,(if C=0 then actRt s root ka dd else root)=x:=⟨_,rfl⟩
   obtain⟨ln,hln⟩:∃ x,(if C=0 then actLn s lone ka dd else lone)=x:=⟨_,rfl⟩
   simp only[hC,hM,hrt,hln] at hdo
   rw[hC] at HStp
   have HDo:=Lib.hid hdo
   have hnx0:C=0→(stepP (playL (l.take i)).1 (actAt l i)).1=(M,rt,ln):=fun h=>by rw[HStp.out,if_pos h,←hM,←hrt,←hln,if_pos h,if_pos h,if_pos h]
   have hnx1:C≠0→(stepP (playL (l.take i)).1 (actAt l i)).1=(s,root,lone):=fun h=>by rw[HStp.out,if_neg h]
   have hnc:(playL (l.take (i+1))).2=(playL (l.take i)).2 ++ [C]:=by rw[playL_take (by rw[HM.out];exact hi),HStp.out]
   have hn1':(playL (l.take (i+1))).1=(stepP (playL (l.take i)).1 (actAt l i)).1:=by rw[playL_take (by rw[HM.out];exact hi)]
   have HX0:=Lib.hid hnx0
   have HX1:=Lib.hid hnx1
   have HNc:=Lib.hid hnc
   have HN1:=Lib.hid hn1'
   have HNl:=Lib.hid hnl
   have HN':=Lib.hid hN'
   obtain⟨j0,hj0⟩:∃ x,p=x:=⟨_,rfl⟩
   obtain⟨j1,hj1⟩:∃ x,p+1=x:=⟨_,rfl⟩
   rw[hj1] at u1 HCb
   rw[hp2] at u2 HCb
   have hw1:IntKind.i64.wrap ((p:Int)+1)=(j1:Int):=by rw[show (p:Int)+1=(j1:Int) by omega];exact IntWalk.i64_in _ (by omega)
   have hb30:(p:Int)<(N:Int):=by omega
   have hb31:(j1:Int)<(N:Int):=by omega
   clear hok hplan hgr hlo hfb hAv hf0 hkd hke hka hN' hnl hdd hee hdo hC hM hrt hln hnx0 hnx1 hnc hn1' hj0 hj1 hp2 hp hsl hi24
   go_upto_if 23 with fail
   go_cut [7] (fun s7 wx=>s7=.int .i64 (N':Int)∧wx=wr)
   case first=>
    by_cases hn:n=0
    ·have hb:((n:Int) == 0)=true:=by simp[hn]
     have hb':n=0:=hn
     have hNN:N'=1:=by have:=HN'.out;have:=HNl.out;omega
     clear hn hb'
     go_wp2_with fail
     all_goals go_meet
     all_goals exact⟨by rw[hNN];rfl,rfl⟩
    ·have hb:((n:Int) == 0)=false:=by simp[hn]
     have hNN:N'=n:=by have:=HN'.out;have:=HNl.out;omega
     have HNN:=Lib.hid hNN
     clear hNN
     go_wp2_with fail
     all_goals go_meet
     all_goals exact⟨by rw[HNN.out],rfl⟩
   case rest=>
    obtain⟨rfl,hwx⟩:=hcut
    subst hwx
    obtain⟨wy,hwy⟩:∃ x,x=wc:=⟨_,rfl⟩
    subst hwy
    go_wp2_with fail
    clear z0 z1 z2 u0 u1 u2
    have HSa:=Lib.hid (fun w' (h:Ev R wy R w')=>(by
     obtain⟨y0,y1,y2,_⟩:=boxC_cells (HSt.out.ev h).h4
     obtain⟨v0,v1,v2⟩:=HCb.out _ h
     exact⟨y0,y1,y2,v0,v1,v2⟩:(fun w':World=>w'.cell? ⟨b4,0,none⟩=some (.slice a1 n c1)∧w'.cell? ⟨b4,1,none⟩=some (.int .i64 root)∧w'.cell? ⟨b4,2,none⟩=some (.int .i64 lone)∧w'.cell? ⟨gb,ob+p,none⟩=some (.int .u8 (f0:Int))∧w'.cell? ⟨gb,ob+j1,none⟩=some (.int .u8 (kd:Int))∧w'.cell? ⟨gb,ob+p2,none⟩=some (.int .u8 (ke:Int))) w'))
    have HEd:=Lib.hid ((Ev.refl HIr.out).drew)
    go_cut [8,9] (fun s8 s9 wx=>∃ (b8 n6 c6:Nat) (a6:Option Addr),s8=.pointer (some ⟨b8,0,none⟩)∧s9=.int .i64 C∧Ev R wy R wx∧wx.heap[b8]?=some (.cells #[.slice a6 n6 c6,.int .i64 rt,.int .i64 ln] 27 (0,0))∧wy.heap.size≤b8∧FreeI R wx (.slice a6 n6 c6) (toI M)∧M.length=n6∧(∀ k,(Value.slice a6 n6 c6).ownBlock=some k→k≠b2∧k≠b4∧k<wx.heap.size)∧(∀ k,(Value.slice a6 n6 c6).ownBlock=some k→(Value.slice a5 q c5).ownBlock≠some k))
    case first=>
     refine wp_region_held_drew (S:=(fun w':World=>w'.cell? ⟨b4,0,none⟩=some (.slice a1 n c1)∧w'.cell? ⟨b4,1,none⟩=some (.int .i64 root)∧w'.cell? ⟨b4,2,none⟩=some (.int .i64 lone)∧w'.cell? ⟨gb,ob+p,none⟩=some (.int .u8 (f0:Int))∧w'.cell? ⟨gb,ob+j1,none⟩=some (.int .u8 (kd:Int))∧w'.cell? ⟨gb,ob+p2,none⟩=some (.int .u8 (ke:Int)))) (by kernel_rfl) (HSa.out _ HEd.out) (fun hHeld=>?_)
     refine tk 0 (v:=?c0) ?d0 ?_
     case d0=>(intro w' ⟨s0,s1,s2,s3,s4,s5⟩;go_simp;try with_reducible rfl)
     try simp only[Act.put,rd]
     refine tk 1 (v:=?c1) ?d1 ?_
     case d1=>(intro w' ⟨s0,s1,s2,s3,s4,s5⟩;go_simp;try with_reducible rfl)
     try simp only[Act.put,rd]
     refine tk 2 (v:=?c2) ?d2 ?_
     case d2=>(intro w' ⟨s0,s1,s2,s3,s4,s5⟩;go_simp;try with_reducible rfl)
     try simp only[Act.put,rd]
     refine tk 3 (v:=?c3) ?d3 ?_
     case d3=>(intro w' ⟨s0,s1,s2,s3,s4,s5⟩;go_simp;try with_reducible rfl)
     try simp only[Act.put,rd]
     refine tk 4 (v:=?c4) ?d4 ?_
     case d4=>(intro w' ⟨s0,s1,s2,s3,s4,s5⟩;go_simp;try with_reducible rfl)
     try simp only[Act.put,rd]
     refine tk 5 (v:=?c5) ?d5 ?_
     case d5=>(intro w' ⟨s0,s1,s2,s3,s4,s5⟩;go_simp;try with_reducible rfl)
     try simp only[Act.put,rd]
     refine tk 6 (v:=?c6) ?d6 ?_
     case d6=>(intro w' ⟨s0,s1,s2,s3,s4,s5⟩;go_simp;try with_reducible rfl)
     try simp only[Act.put,rd]
     refine tk 7 (v:=?c7) ?d7 ?_
     case d7=>(intro w' ⟨s0,s1,s2,s3,s4,s5⟩;go_simp;try with_reducible rfl)
     try simp only[Act.put,rd]
     refine tk 8 (v:=?c8) ?d8 ?_
     case d8=>(intro w' ⟨s0,s1,s2,s3,s4,s5⟩;go_simp;try with_reducible rfl)
     try simp only[Act.put,rd]
     refine tk 9 (v:=?c9) ?d9 ?_
     case d9=>(intro w' ⟨s0,s1,s2,s3,s4,s5⟩;go_simp;try with_reducible rfl)
     try simp only[Act.put,rd]
     refine tk 10 (v:=?c10) ?d10 ?_
     case d10=>(intro w' ⟨s0,s1,s2,s3,s4,s5⟩;go_simp;try with_reducible rfl)
     try simp only[Act.put,rd]
     refine tk 11 (v:=?c11) ?d11 ?_
     case d11=>(intro w' ⟨s0,s1,s2,s3,s4,s5⟩;go_simp;try with_reducible rfl)
     try simp only[Act.put,rd]
     refine tk 12 (v:=?c12) ?d12 ?_
     case d12=>(intro w' ⟨s0,s1,s2,s3,s4,s5⟩;go_simp;try with_reducible rfl)
     try simp only[Act.put,rd]
     refine tk 13 (v:=?c13) ?d13 ?_
     case d13=>(intro w' ⟨s0,s1,s2,s3,s4,s5⟩;go_simp;try with_reducible rfl)
     try simp only[Act.put,rd]
     refine tk 14 (v:=?c14) ?d14 ?_
     case d14=>(intro w' ⟨s0,s1,s2,s3,s4,s5⟩;go_simp;try with_reducible rfl)
     try simp only[Act.put,rd]
     refine tk 15 (v:=?c15) ?d15 ?_
     case d15=>(intro w' ⟨s0,s1,s2,s3,s4,s5⟩;go_simp;try with_reducible rfl)
     try simp only[Act.put,rd]
     refine tk 16 (v:=?c16) ?d16 ?_
     case d16=>(intro w' ⟨s0,s1,s2,s3,s4,s5⟩;go_simp;try with_reducible rfl)
     try simp only[Act.put,rd]
     refine tk 17 (v:=?c17) ?d17 ?_
     case d17=>(intro w' ⟨s0,s1,s2,s3,s4,s5⟩;go_simp;try with_reducible rfl)
     try simp only[Act.put,rd]
     refine tk 18 (v:=?c18) ?d18 ?_
     case d18=>(intro w' ⟨s0,s1,s2,s3,s4,s5⟩;go_simp;try with_reducible rfl)
     try simp only[Act.put,rd]
     refine tk 19 (v:=?c19) ?d19 ?_
     case d19=>(intro w' ⟨s0,s1,s2,s3,s4,s5⟩;go_simp;try with_reducible rfl)
     try simp only[Act.put,rd]
     refine tk 20 (v:=?c20) ?d20 ?_
     case d20=>(intro w' ⟨s0,s1,s2,s3,s4,s5⟩;go_simp;try with_reducible rfl)
     try simp only[Act.put,rd]
     refine tk 21 (v:=?c21) ?d21 ?_
     case d21=>(intro w' ⟨s0,s1,s2,s3,s4,s5⟩;go_simp;try with_reducible rfl)
     try simp only[Act.put,rd]
     refine tk 22 (v:=?c22) ?d22 ?_
     case d22=>(intro w' ⟨s0,s1,s2,s3,s4,s5⟩;go_simp;try with_reducible rfl)
     try simp only[Act.put,rd]
     refine wpAnyH_ready (rs:=[23,27]) (by kernel_rfl) (by simp) (AllReadyH.cons rfl (fun K hK=>?_) (AllReadyH.cons rfl (fun K hK=>?_) AllReadyH.nil))
     ·go_simp
      refine (HDo.out _ HEd.out).mono ?_
      rintro z w6 ⟨v6,rfl,he6,hf6,hb6⟩
      obtain⟨a6,c6,rfl,hf6'⟩:=hf6.open
      rw[toI_length] at hf6 hf6' hb6 ⊢
      have HG6:=Lib.hid (HEd.out.trans he6)
      have HF6:=Lib.hid hf6
      have HX6:=Lib.hid he6
      obtain⟨n6,hn6⟩:∃ x,M.length=x:=⟨_,rfl⟩
      rw[hn6] at HF6 hb6 ⊢
      have HN6:=Lib.hid hn6
      have HNe6:=Lib.hid (show ∀ k,(Value.slice a6 n6 c6).ownBlock=some k→k≠b2∧k≠b4∧k<w6.heap.size from fun k hk=>by
       rcases hb6 k hk with e|⟨e,e'⟩
       ·have h3:=HSt.out.ne k e
        have h4:=HG6.out.size
        exact⟨h3.1,h3.2.1,by omega⟩
       ·have h1:=HSt.out.lt2
        have h2:=HSt.out.lt4
        have h5:=HEd.out.size
        exact⟨by omega,by omega,e'⟩)
      have HSp6:=Lib.hid (show ∀ k,(Value.slice a6 n6 c6).ownBlock=some k→(Value.slice a5 q c5).ownBlock≠some k from fun k hk=>by
       rcases hb6 k hk with e|⟨e,e'⟩
       ·exact HSep.out k e
       ·intro h
        have h1:=(HOv.out.lt k h).2
        have h5:=HEd.out.size
        omega)
      clear he6 hf6 hf6' hb6 hn6
      simp only[refV]
      go_simp
      refine hK.out _ _ (HSa.out _ HG6.out) (fun hHeld6=>?_)
      clear hHeld
      refine tk 24 (v:=?c24) ?d24 ?_
      case d24=>(intro w' ⟨s0,s1,s2,s3,s4,s5⟩;go_simp;try with_reducible rfl)
      try simp only[Act.put,rd]
      refine tk 25 (v:=?c25) ?d25 ?_
      case d25=>(intro w' ⟨s0,s1,s2,s3,s4,s5⟩;go_simp;try with_reducible rfl)
      try simp only[Act.put,rd]
      refine tk 26 (v:=?c26) ?d26 ?_
      case d26=>(intro w' ⟨s0,s1,s2,s3,s4,s5⟩;go_simp;try with_reducible rfl)
      try simp only[Act.put,rd]
      have HG7:=Lib.hid (HG6.out.trans ((Ev.refl HG6.out.inv).alloc (.cells #[.slice none 0 0,.int .i64 0,.int .i64 0] 27)))
      refine nx 27 fun K hK=>?_
      go_simp
      refine hK.out _ _ (HSa.out _ HG7.out) (fun hHeld7=>?_)
      clear hHeld6
      have hbx:=heap_alloc_new w6 (.cells #[.slice none 0 0,.int .i64 0,.int .i64 0] 27)
      obtain⟨q0,q1,q2,qz⟩:=boxC_cells hbx
      have qz0:=qz 0
      have qz1:=qz 1
      have qz2:=qz 2
      have hA8:=(Ev.refl HG6.out.inv).alloc (.cells #[.slice a6 n6 c6,.int .i64 rt,.int .i64 ln] 27)
      have hbn:=heap_alloc_new w6 (.cells #[.slice a6 n6 c6,.int .i64 rt,.int .i64 ln] 27)
      have HA8:=Lib.hid hA8
      have HBn:=Lib.hid hbn
      have hle8:wy.heap.size≤w6.heap.size:=HG6.out.size
      clear hbx qz hA8 hbn
      refine nx 28 fun K hK=>?_
      go_simp
      refine hK.out _ _ (HSa.out _ (HG6.out.trans HA8.out)) (fun hHeld8=>?_)
      clear hHeld7
      refine tk 29 (v:=?k29) ?l29 ?_
      case l29=>(intro w' ⟨s0,s1,s2,s3,s4,s5⟩;go_simp;try with_reducible rfl)
      try simp only[Act.put,rd]
      refine wpAnyH_done (by kernel_rfl) ?_ _
      clear hHeld8 q0 q1 q2 qz0 qz1 qz2
      go_wp2_with fail
      go_meet
      refine⟨w6.heap.size,n6,c6,a6,rfl,rfl,HG6.out.trans HA8.out,HBn.out,hle8,HF6.out.ev HA8.out,HN6.out,fun k hk=>?_,HSp6.out⟩
      have h1:=HNe6.out k hk
      refine⟨h1.1,h1.2.1,?_⟩
      have h2:=HA8.out.size
      omega
     ·go_simp
      have HG7:=Lib.hid (HEd.out.trans ((Ev.refl HEd.out.inv).alloc (.cells #[.slice none 0 0,.int .i64 0,.int .i64 0] 27)))
      have hs7:(wy.drew.alloc (.cells #[.slice none 0 0,.int .i64 0,.int .i64 0] 27)).heap.size=wy.heap.size+1:=by simp
      have hbx7:=heap_alloc_new wy.drew (.cells #[.slice none 0 0,.int .i64 0,.int .i64 0] 27)
      have HS7:=Lib.hid hs7
      have HBx7:=Lib.hid hbx7
      clear hs7 hbx7
      refine hK.out _ _ (HSa.out _ HG7.out) (fun hHeld7=>?_)
      clear hHeld
      refine nx 23 fun K hK=>?_
      go_simp
      refine (HDo.out _ HG7.out).mono ?_
      rintro z w6 ⟨v6,rfl,he6,hf6,hb6⟩
      obtain⟨a6,c6,rfl,hf6'⟩:=hf6.open
      rw[toI_length] at hf6 hf6' hb6 ⊢
      have HG6:=Lib.hid (HG7.out.trans he6)
      have HF6:=Lib.hid hf6
      have HX6:=Lib.hid he6
      obtain⟨n6,hn6⟩:∃ x,M.length=x:=⟨_,rfl⟩
      rw[hn6] at HF6 hb6 ⊢
      have HN6:=Lib.hid hn6
      have HNe6:=Lib.hid (show ∀ k,(Value.slice a6 n6 c6).ownBlock=some k→k≠b2∧k≠b4∧k<w6.heap.size from fun k hk=>by
       rcases hb6 k hk with e|⟨e,e'⟩
       ·have h3:=HSt.out.ne k e
        have h4:=HG6.out.size
        exact⟨h3.1,h3.2.1,by omega⟩
       ·have h1:=HSt.out.lt2
        have h2:=HSt.out.lt4
        have h5:=HS7.out
        exact⟨by omega,by omega,e'⟩)
      have HSp6:=Lib.hid (show ∀ k,(Value.slice a6 n6 c6).ownBlock=some k→(Value.slice a5 q c5).ownBlock≠some k from fun k hk=>by
       rcases hb6 k hk with e|⟨e,e'⟩
       ·exact HSep.out k e
       ·intro h
        have h1:=(HOv.out.lt k h).2
        have h5:=HS7.out
        omega)
      have HQ8:=Lib.hid (show ∀ (o:Nat),(Value.slice a6 n6 c6).ownBlock≠some (⟨wy.heap.size,o,none⟩:Addr).block from fun o hk=>by
       rcases hb6 _ hk with e|⟨e,e'⟩
       ·have h3:=(HSt.out.ne _ e).2.2
        exact absurd h3 (Nat.lt_irrefl _)
       ·have h5:=HS7.out
        have h6:(⟨wy.heap.size,o,none⟩:Addr).block=wy.heap.size:=rfl
        omega)
      clear he6 hf6 hf6' hb6 hn6
      simp only[refV]
      have hq8:∀ (o:Nat),(Value.slice a6 n6 c6).ownBlock≠some (⟨wy.heap.size,o,none⟩:Addr).block:=HQ8.out
      clear HQ8
      go_simp
      refine hK.out _ _ (HSa.out _ HG6.out) (fun hHeld6=>?_)
      clear hHeld7
      refine tk 24 (v:=?g24) ?h24 ?_
      case h24=>(intro w' ⟨s0,s1,s2,s3,s4,s5⟩;go_simp;try with_reducible rfl)
      try simp only[Act.put,rd]
      refine tk 25 (v:=?g25) ?h25 ?_
      case h25=>(intro w' ⟨s0,s1,s2,s3,s4,s5⟩;go_simp;try with_reducible rfl)
      try simp only[Act.put,rd]
      refine tk 26 (v:=?g26) ?h26 ?_
      case h26=>(intro w' ⟨s0,s1,s2,s3,s4,s5⟩;go_simp;try with_reducible rfl)
      try simp only[Act.put,rd]
      have hbx:w6.heap[wy.heap.size]?=some (.cells #[.slice none 0 0,.int .i64 0,.int .i64 0] 27 (0,0)):=(HX6.out.block _ (by rw[HS7.out];omega) (HIr.out.none_of_ge (Nat.le_refl _))).trans HBx7.out
      have HBx:=Lib.hid hbx
      obtain⟨q0,q1,q2,qz⟩:=boxC_cells hbx
      have hn8:R (wy.heap.size)=none:=HIr.out.none_of_ge (Nat.le_refl _)
      have hle8:wy.heap.size≤wy.heap.size:=(Nat.le_refl _)
      have hG8:=((HG6.out.setCell (p:=⟨wy.heap.size,0,none⟩) hle8 hn8 (.slice a6 n6 c6)).setCell (p:=⟨wy.heap.size,1,none⟩) hle8 hn8 (.int .i64 rt)).setCell (p:=⟨wy.heap.size,2,none⟩) hle8 hn8 (.int .i64 ln)
      have HG8:=Lib.hid hG8
      have qz0:=qz 0
      have qz1:=qz 1
      have qz2:=qz 2
      clear hG8 hbx qz
      refine nx 28 fun K hK=>?_
      go_simp
      refine hK.out _ _ (HSa.out _ HG8.out) (fun hHeld8=>?_)
      clear hHeld6
      refine tk 29 (v:=?m29) ?n29 ?_
      case n29=>(intro w' ⟨s0,s1,s2,s3,s4,s5⟩;go_simp;try with_reducible rfl)
      try simp only[Act.put,rd]
      refine wpAnyH_done (by kernel_rfl) ?_ _
      clear hHeld8 q0 q1 q2 qz0 qz1 qz2
      go_wp2_with fail
      go_meet
      refine⟨wy.heap.size,n6,c6,a6,rfl,rfl,HG8.out,set3 HBx.out,hle8,?_,HN6.out,fun k hk=>?_,HSp6.out⟩
      ·exact ((HF6.out.setCell (hq8 0) _).setCell (hq8 1) _).setCell (hq8 2) _
      ·have h1:=HNe6.out k hk
       refine⟨h1.1,h1.2.1,?_⟩
       simp only[World.size_setCell]
       exact h1.2.2
    case rest=>
     obtain⟨b8,n6,c6,a6,rfl,rfl,hex,hb8,hle8,hf6,hn6,hne6,hsp6⟩:=hcut
     have HEx:=Lib.hid hex
     have HNe:=Lib.hid hne6
     have HSx:=Lib.hid hsp6
     have HF6:=Lib.hid hf6
     have HSW:=Lib.hid (show w1.heap.size≤wy.heap.size from HSz1.out)
     have HLt:=Lib.hid (And.intro HLt1.out.1 HLt1.out.2)
     obtain⟨y0,y1,y2,yz⟩:=boxC_cells (HSt.out.ev hex).h4
     obtain⟨q0,q1,q2,_⟩:=boxC_cells hb8
     have HN6:=Lib.hid hn6
     have HO7a:=Lib.hid (HOv.out.ev hex)
     have yz0:=yz 0
     have yz1:=yz 1
     have yz2:=yz 2
     have hbne:b8≠b4:=by have:=HSt.out.lt4;omega
     clear hex hf6 hne6 hsp6 hn6 yz hb8
     by_cases hC0:C=0
     ·have hcb:(C == 0)=true:=by rw[hC0];rfl
      have HC0:=Lib.hid hC0
      clear hC0
      go_upto_region 12 with fail
      obtain⟨w8,hw8⟩:∃ x,(((wc.setCell ⟨b4,0,none⟩ (.slice a6 n6 c6)).setCell ⟨b4,1,none⟩ (.int .i64 rt)).setCell ⟨b4,2,none⟩ (.int .i64 ln))=x:=⟨_,rfl⟩
      have hps:=(HSt.out.ev HEx.out).put HF6.out HN6.out HNe.out rt ln
      have hq4:∀ (o:Nat),(Value.slice a5 q c5).ownBlock≠some (⟨b4,o,none⟩:Addr).block:=fun o e=>by have:=(HO7a.out.lt _ e).1;have:=HLt.out.2;have h3:(⟨b4,o,none⟩:Addr).block=b4:=rfl;omega
      have ho7:=((HO7a.out.setCell (hq4 0) (.slice a6 n6 c6)).setCell (hq4 1) (.int .i64 rt)).setCell (hq4 2) (.int .i64 ln)
      have hb4w:w.heap.size≤b4:=by have:=HB2.out;have:=HB24.out;omega
      have hew:=(((HE.out.trans HEx.out).setCell (p:=⟨b4,0,none⟩) hb4w HSt.out.r4 (.slice a6 n6 c6)).setCell (p:=⟨b4,1,none⟩) hb4w HSt.out.r4 (.int .i64 rt)).setCell (p:=⟨b4,2,none⟩) hb4w HSt.out.r4 (.int .i64 ln)
      have hsz:wy.heap.size≤(((wc.setCell ⟨b4,0,none⟩ (.slice a6 n6 c6)).setCell ⟨b4,1,none⟩ (.int .i64 rt)).setCell ⟨b4,2,none⟩ (.int .i64 ln)).heap.size:=by simp only[World.size_setCell];exact HEx.out.size
      rw[hw8] at hps ho7 hew hsz
      try rw[hw8]
      have HPs:=Lib.hid hps
      have HO7:=Lib.hid ho7
      have HEw:=Lib.hid hew
      have HSz:=Lib.hid hsz
      clear hps ho7 hew hsz hq4 hw8 y0 y1 y2 q0 q1 q2 yz0 yz1 yz2
      have HE8:=Lib.hid ((Ev.refl (HEw.out).inv).alloc (.cells #[.int .i64 C] 3))
      have HO8:=Lib.hid (HO7.out.alloc (.cells #[.int .i64 C] 3))
      have hsz8:(w8.alloc (.cells #[.int .i64 C] 3)).heap.size=w8.heap.size+1:=by simp
      have hbx8:=heap_alloc_new w8 (.cells #[.int .i64 C] 3)
      have HS8:=Lib.hid hsz8
      have HS7:=Lib.hid (show w1.heap.size≤w8.heap.size from Nat.le_trans HSW.out (HSz.out))
      clear hsz8 hbx8
      go_wp2_with (at_builtin;refine wpList_app_int rfl _ _ rfl HO8.out rfl ⟨w8.heap.size,0,none⟩ 1 C rfl ?z2 ?z3 ?z4 ?z5 ?_)
      try (case z2=>exact one_cell _ _)
      case z3=>rw[HQ.out];omega
      case z4=>have:=HS8.out;have:=HS7.out;omega
      case z5=>exact fun q hq=>(HEw.out).inv.none_of_ge (Nat.le_trans (Nat.le_succ _) hq)
      intro v9 w9 ho9 hg9 hs9
      have hev9:=((HEw.out).trans HE8.out).app HO8.out (Nat.le_trans HE1.out.size (Nat.le_refl _)) hg9
      have hrow:∀ k,(Value.slice a5 q c5).ownBlock=some k→w1.heap.size≤k:=fun k hk=>(HO8.out.lt k hk).1
      have hst9:=(HPs.out.ev HE8.out).grown hg9 HSx.out (fun e=>by have:=hrow _ e;have:=HLt.out.1;omega) (fun e=>by have:=hrow _ e;have:=HLt.out.2;omega)
      have hsep9:∀ k,(Value.slice a6 n6 c6).ownBlock=some k→v9.ownBlock≠some k:=fun k hk e=>by
       rcases hs9 k e with e1|e1
       ·exact HSx.out k hk e1
       ·have h1:=(HPs.out.ne k hk).2.2
        have h2:=HS8.out
        omega
      rw[←HNc.out] at ho9
      have HO9:=Lib.hid ho9
      have HE9:=Lib.hid hev9
      have HSt9:=Lib.hid hst9
      have HSp9:=Lib.hid hsep9
      have HGs9:=Lib.hid hg9.size
      clear ho9 hg9 hs9 hev9 hst9 hsep9 hrow
      go_wp2_with fail
      go_roundg (m-(i+1))
      case measure=>omega
      case rel=>exact⟨i+1,p3,a6,n6,c6,M,rt,ln,by omega,by omega,by have:=HP3.out;have:=HP.out;omega,by go_num,HE9.out,HSt9.out,by rw[HN1.out];exact HX0.out HC0.out,HO9.out,HSp9.out,Nat.le_trans HS7.out (Nat.le_trans HE8.out.size HGs9.out)⟩
     ·have hcb:(C == 0)=false:=beq_eq_false_iff_ne.2 hC0
      have HC0:=Lib.hid hC0
      have HO7:=HO7a
      clear hC0 y0 y1 y2 q0 q1 q2 yz0 yz1 yz2
      go_upto_region 12 with fail
      have HE8:=Lib.hid ((Ev.refl ((HE.out.trans HEx.out)).inv).alloc (.cells #[.int .i64 C] 3))
      have HO8:=Lib.hid (HO7.out.alloc (.cells #[.int .i64 C] 3))
      have hsz8:(wc.alloc (.cells #[.int .i64 C] 3)).heap.size=wc.heap.size+1:=by simp
      have hbx8:=heap_alloc_new wc (.cells #[.int .i64 C] 3)
      have HS8:=Lib.hid hsz8
      have HS7:=Lib.hid (show w1.heap.size≤wc.heap.size from Nat.le_trans HSW.out (HEx.out.size))
      clear hsz8 hbx8
      go_wp2_with (at_builtin;refine wpList_app_int rfl _ _ rfl HO8.out rfl ⟨wc.heap.size,0,none⟩ 1 C rfl ?x2 ?x3 ?x4 ?x5 ?_)
      try (case x2=>exact one_cell _ _)
      case x3=>rw[HQ.out];omega
      case x4=>have:=HS8.out;have:=HS7.out;omega
      case x5=>exact fun q hq=>(HE.out.trans HEx.out).inv.none_of_ge (Nat.le_trans (Nat.le_succ _) hq)
      intro v9 w9 ho9 hg9 hs9
      have hev9:=(((HE.out.trans HEx.out)).trans HE8.out).app HO8.out (Nat.le_trans HE1.out.size (Nat.le_refl _)) hg9
      have hrow:∀ k,(Value.slice a5 q c5).ownBlock=some k→w1.heap.size≤k:=fun k hk=>(HO8.out.lt k hk).1
      have hst9:=((HSt.out.ev HEx.out).ev HE8.out).grown hg9 HSep.out (fun e=>by have:=hrow _ e;have:=HLt.out.1;omega) (fun e=>by have:=hrow _ e;have:=HLt.out.2;omega)
      have hsep9:∀ k,(Value.slice a1 n c1).ownBlock=some k→v9.ownBlock≠some k:=fun k hk e=>by
       rcases hs9 k e with e1|e1
       ·exact HSep.out k hk e1
       ·have h1:=((HSt.out.ev HEx.out).ne k hk).2.2
        have h2:=HS8.out
        omega
      rw[←HNc.out] at ho9
      have HO9:=Lib.hid ho9
      have HE9:=Lib.hid hev9
      have HSt9:=Lib.hid hst9
      have HSp9:=Lib.hid hsep9
      have HGs9:=Lib.hid hg9.size
      clear ho9 hg9 hs9 hev9 hst9 hsep9 hrow
      go_wp2_with fail
      go_roundg (m-(i+1))
      case measure=>omega
      case rel=>exact⟨i+1,p3,a1,n,c1,s,root,lone,by omega,by omega,by have:=HP3.out;have:=HP.out;omega,by go_num,HE9.out,HSt9.out,by rw[HN1.out];exact HX1.out HC0.out,HO9.out,HSp9.out,Nat.le_trans HS7.out (Nat.le_trans HE8.out.size HGs9.out)⟩
  ·have hir:¬ (p2:Int)<(N:Int):=by have:=HLm.out;have:=HP.out;omega
   have him:i=m:=by omega
   obtain⟨z0,z1,z2,_⟩:=boxC_cells HSt.out.h4
   obtain⟨y0,y1,y2,yz⟩:=boxC_cells HSt.out.h2
   have yz0:=yz 0
   have yz1:=yz 1
   have yz2:=yz 2
   have hbne:b2≠b4:=HSt.out.bb
   have HIm:=Lib.hid him
   clear him hp2 hp yz
   go_wp2_with fail
   have hb3:=set3 (x:=.slice a1 n c1) (y:=.int .i64 root) (z:=.int .i64 lone) HSt.out.h2
   obtain⟨u0,u1,u2,_⟩:=boxC_cells hb3
   have hb2w:w.heap.size≤b2:=by have:=HB2.out;omega
   have hle1:=HLt1.out.1
   have hta:l.take i=l:=by rw[HIm.out,←HM.out,List.take_length]
   have hpl:=HPl.out
   have hov:=HOv.out
   rw[hta] at hpl hov
   have hql:(playL l).2.length=q:=by rw[←HQ.out,hta]
   have hnl:=HSt.out.len
   have hq2:∀ (o:Nat),(Value.slice a1 n c1).ownBlock≠some (⟨b2,o,none⟩:Addr).block:=fun o e=>(HSt.out.ne _ e).1 rfl
   have hq5:∀ (o:Nat),(Value.slice a5 q c5).ownBlock≠some (⟨b2,o,none⟩:Addr).block:=fun o e=>by have:=(HOv.out.lt _ e).1;have h3:(⟨b2,o,none⟩:Addr).block=b2:=rfl;omega
   refine bodyPost_ret (v:=.tuple #[refV (.slice a1 n c1) root lone,.slice a5 q c5]) ?_ rfl ⟨.slice a1 n c1,.slice a5 q c5,by rw[hpl],?_,?_,?_⟩
   ·simp[results,Tryz.results41,go_sem,u0,u1,u2,refV]
   ·exact ((HE.out.setCell (p:=⟨b2,0,none⟩) hb2w HSt.out.r2 _).setCell (p:=⟨b2,1,none⟩) hb2w HSt.out.r2 _).setCell (p:=⟨b2,2,none⟩) hb2w HSt.out.r2 _
   ·rw[hpl]
    exact ((HSt.out.fr.setCell (hq2 0) _).setCell (hq2 1) _).setCell (hq2 2) _
   ·have h:=hov.mono HE1.out.size
    exact ((h.setCell (hq5 0) _).setCell (hq5 1) _).setCell (hq5 2) _
end
section
open Go.RowKit
set_option linter.unusedVariables false
set_option linter.unusedSimpArgs false
set_option maxRecDepth 100000 in
set_option maxHeartbeats 2000000 in
theorem scriptPlays_walk (w:World) (a:Option Addr) (cap:Nat) (bs:List Nat) (hv:FreeB noReg w (.slice a bs.length cap) bs) (hcap:bs.length≤cap):Calls Tryz.prog 9 #[.slice a bs.length cap] w (RetTrue noReg w):=by
 have HA:=Lib.hid (awake24_any noReg w (Inv.noReg w))
 have HCt:=Lib.hid (fun R' w' (h:Ev noReg w R' w')=>cut24_any R' w' h.inv a cap bs (hv.ev h) hcap)
 obtain⟨cs,hcs⟩:∃ cs,bs.take 75=cs:=⟨_,rfl⟩
 rw[hcs] at HCt
 have hcl:cs.length≤75:=by rw[←hcs,List.length_take];omega
 have hc255:∀ i,i<cs.length→at' cs i≤255:=by
  intro i hi
  have h:=hv.take (min bs.length 75) (by omega)
  have e:bs.take (min bs.length 75)=cs:=by
   rw[←hcs]
   rcases Nat.le_total bs.length 75 with h|h
   ·rw[Nat.min_eq_left h,List.take_of_length_le (Nat.le_refl _),List.take_of_length_le h]
   ·rw[Nat.min_eq_right h]
  rw[e] at h
  obtain⟨_,_,_,_,_,h4⟩:=h.cell hi
  exact h4
 have H255:=Lib.hid hc255
 obtain⟨N,hN⟩:∃ N,cs.length=N:=⟨_,rfl⟩
 have HN:=Lib.hid hN
 rw[hN] at HCt hcl
 have hall:∀ i,i≤(actsL cs).length→PlayP (playL ((actsL cs).take i)).1 i:=play_all (by unfold actsL;rw[List.length_map,List.length_range];omega) (fun i hi=>actAt_le hi)
 have hfin:=hall _ (Nat.le_refl _)
 rw[List.take_length] at hfin
 have hcdl:=playL_codes (actsL cs) _ (Nat.le_refl _)
 rw[List.take_length] at hcdl
 obtain⟨l,hl⟩:∃ l,actsL cs=l:=⟨_,rfl⟩
 rw[hl] at hfin hcdl
 obtain⟨q,hq⟩:∃ q,l.length=q:=⟨_,rfl⟩
 rw[hq] at hcdl hfin
 have hqb:q≤25:=by rw[←hq,←hl];unfold actsL;rw[List.length_map,List.length_range];omega
 obtain⟨⟨⟨s,root,lone⟩,cd⟩,hpl⟩:∃ x,playL l=x:=⟨_,rfl⟩
 rw[hpl] at hcdl hfin
 have hok:=hfin.ok
 try dsimp only at hok hcdl
 obtain⟨lone,rfl⟩:∃ n:Nat,lone=(n:Int):=⟨lone.toNat,by have:=hok.2.2.1;omega⟩
 have hgen:(genusL s == 0)=true:=by have:=hfin.plan.2.2;try dsimp only at this;rw[this];rfl
 have hsl:s.length≤131073:=hok.2.1
 have HL:=Lib.hid hl
 have HCl:=Lib.hid hcdl
 have HPl:=Lib.hid hpl
 have HSl:=Lib.hid hsl
 clear hv hc255 hN hcs hl hall hfin hcdl hpl hok hsl hq
 go_enter Tryz.func9,Tryz.ntmps9
 go_wp2_with fail
 refine HA.out.mono ?_
 rintro e w1 ⟨rfl,R1,he1⟩
 have HE1:=Lib.hid he1
 clear he1
 go_wp2_with fail
 refine (HCt.out _ _ HE1.out).mono ?_
 rintro e w2 ⟨v2,rfl,he2,ho2⟩
 obtain⟨a2,c2,rfl,hc2,hc3,_⟩:=ho2.open
 have hfb:FreeB R1 w2 (.slice a2 cs.length c2) cs:=by
  refine OwnV.bytes (B:=w1.heap.size) ?_ H255.out
  rw[HN.out];exact ho2
 have HB:=Lib.hid hfb
 have HE2:=Lib.hid (HE1.out.trans he2)
 have HI2:=Lib.hid (HE1.out.trans he2).inv
 have hbc:N≤c2:=by omega
 clear he2 ho2 hfb hc2 hc3
 have hpy:=play_any R1 w2 HI2.out a2 c2 cs HB.out (by rw[HN.out];exact hbc) (by rw[HN.out];omega)
 rw[HL.out,HPl.out,HN.out] at hpy
 have HPy:=Lib.hid hpy
 clear hpy
 go_wp2_with fail
 refine HPy.out.mono ?_
 rintro e w3 ⟨p3,v3,R3,rfl,he3,hp3,ho3⟩
 try dsimp only at hp3 ho3
 rw[HCl.out] at ho3
 obtain⟨a3,c3,rfl,_⟩:=ho3.open
 have HE3:=Lib.hid he3
 have HP3:=Lib.hid hp3
 have HO3:=Lib.hid ho3
 have hrp:=r24play_any R3 w3 he3.inv a2 c2 cs (HB.out.ev he3) (by rw[HN.out];omega)
 rw[HL.out,HPl.out,HN.out] at hrp
 have HRp:=Lib.hid hrp
 clear hrp he3 hp3 ho3
 go_wp2_with fail
 refine HRp.out.mono ?_
 rintro e w4 ⟨v4,u4,rfl,he4,hf4,ho4⟩
 try dsimp only at hf4 ho4
 obtain⟨a6,c6,rfl,hf4'⟩:=hf4.open
 obtain⟨a7,c7,rfl,_⟩:=ho4.ints.open
 rw[toI_length] at hf4 hf4' ⊢
 rw[HCl.out] at ho4 ⊢
 obtain⟨n,hn⟩:∃ n,s.length=n:=⟨_,rfl⟩
 rw[hn] at hf4 ⊢
 have HNn:=Lib.hid hn
 have HE4:=Lib.hid he4
 have HF4:=Lib.hid hf4
 have HO4:=Lib.hid ho4
 have HO3:=Lib.hid (HO3.out.ev he4)
 have HP3:=Lib.hid (he4.map HP3.out)
 simp only[refV]
 clear hf4 hf4' ho4 he4 hn
 have hbx:=heap_alloc_new w4 (.cells #[.slice a6 n c6,.int .i64 root,.int .i64 (lone:Int)] 27)
 have heb:Ev R3 w4 R3 (w4.alloc (.cells #[.slice a6 n c6,.int .i64 root,.int .i64 (lone:Int)] 27)):=(Ev.refl HE4.out.inv).alloc _
 have hnone:R3 w4.heap.size=none:=HE4.out.inv.none_of_ge (Nat.le_refl _)
 obtain⟨w5,hw5⟩:∃ x,(w4.alloc (.cells #[.slice a6 n c6,.int .i64 root,.int .i64 (lone:Int)] 27))=x:=⟨_,rfl⟩
 obtain⟨b5,hb5⟩:∃ x,w4.heap.size=x:=⟨_,rfl⟩
 go_upto_region 6 with fail
 try rw[hw5]
 try rw[hb5]
 rw[hw5,hb5] at hbx
 rw[hw5] at heb
 rw[hb5] at hnone
 have HE5:=Lib.hid heb
 have hlt5:b5<w5.heap.size:=by rw[←hw5,←hb5];simp
 have HSa:=Lib.hid (fun R' w' (h:Ev R3 w5 R' w')=>(by
  have hb:w'.heap[b5]?=some (.cells #[.slice a6 n c6,.int .i64 root,.int .i64 (lone:Int)] 27 (0,0)):=(h.block _ hlt5 hnone).trans hbx
  obtain⟨y0,y1,y2,_⟩:=boxC_cells hb
  exact⟨y0,y1,y2⟩:(fun w':World=>w'.cell? ⟨b5,0,none⟩=some (.slice a6 n c6)∧w'.cell? ⟨b5,1,none⟩=some (.int .i64 root)∧w'.cell? ⟨b5,2,none⟩=some (.int .i64 (lone:Int))) w'))
 have HF5:=Lib.hid (HF4.out.ev heb)
 have HO5:=Lib.hid (HO4.out.ev heb)
 have HV5:=Lib.hid (HO3.out.ev heb)
 have HM5:=Lib.hid (heb.map HP3.out)
 have HEw:=Lib.hid (HE2.out.trans (HE3.out.trans (HE4.out.trans heb)))
 clear hbx heb hnone hlt5 hw5 hb5 HF4 HO4 HO3 HP3 HE4
 have HEd:=Lib.hid ((Ev.refl HE5.out.inv).drew)
 refine wp_region_held_drew (S:=(fun w':World=>w'.cell? ⟨b5,0,none⟩=some (.slice a6 n c6)∧w'.cell? ⟨b5,1,none⟩=some (.int .i64 root)∧w'.cell? ⟨b5,2,none⟩=some (.int .i64 (lone:Int)))) (by kernel_rfl) (HSa.out _ _ HEd.out) (fun hHeld=>?_)
 refine tk 0 (v:=?c0) ?d0 ?_
 case d0=>(intro w' ⟨s0,s1,s2⟩;go_simp;try with_reducible rfl)
 try simp only[Act.put,rd]
 refine tk 1 (v:=?c1) ?d1 ?_
 case d1=>(intro w' ⟨s0,s1,s2⟩;go_simp;try with_reducible rfl)
 try simp only[Act.put,rd]
 refine tk 2 (v:=?c2) ?d2 ?_
 case d2=>(intro w' ⟨s0,s1,s2⟩;go_simp;try with_reducible rfl)
 try simp only[Act.put,rd]
 refine tk 3 (v:=?c3) ?d3 ?_
 case d3=>(intro w' ⟨s0,s1,s2⟩;go_simp;try with_reducible rfl)
 try simp only[Act.put,rd]
 refine tk 4 (v:=.bool false) ?d4 ?_
 case d4=>(intro w' ⟨s0,s1,s2⟩;go_simp;try with_reducible rfl)
 try simp only[Act.put,rd]
 refine tk 5 (v:=.bool false) ?d5 ?_
 case d5=>(intro w' ⟨s0,s1,s2⟩;go_simp;try with_reducible rfl)
 try simp only[Act.put,rd]
 refine tk 6 (v:=?c6) ?d6 ?_
 case d6=>(intro w' ⟨s0,s1,s2⟩;go_simp;try with_reducible rfl)
 try simp only[Act.put,rd]
 refine tk 8 (v:=?c8) ?d8 ?_
 case d8=>(intro w' ⟨s0,s1,s2⟩;go_simp;try with_reducible rfl)
 try simp only[Act.put,rd]
 refine tk 9 (v:=?c9) ?d9 ?_
 case d9=>(intro w' ⟨s0,s1,s2⟩;go_simp;try with_reducible rfl)
 try simp only[Act.put,rd]
 refine nx 7 fun K hK=>?_
 go_simp
 refine (mlist_any R3 w5.drew HEd.out.inv p3 s root lone (HEd.out.map HM5.out)).mono ?_
 rintro z w6 ⟨v6,rfl,he6,ho6⟩
 obtain⟨a8,c8,rfl,_⟩:=ho6.ints.open
 rw[toI_length,HNn.out] at ho6 ⊢
 have HG6:=Lib.hid (HEd.out.trans he6)
 have HO6:=Lib.hid ho6
 clear he6 ho6
 go_simp
 refine hK.out _ _ (HSa.out _ _ HG6.out) (fun hHeld6=>?_)
 clear hHeld
 refine nx 10 fun K hK=>?_
 go_simp
 refine (equal_any R3 w6 HG6.out.inv _ _ (toI s) (toI s) HO6.out.ints (HF5.out.ev HG6.out).1 (by rw[toI_length];have:=HSl.out;omega) (by rw[toI_length];have:=HSl.out;omega)).mono ?_
 rintro z w7 ⟨rfl,he7⟩
 rw[show eqL (toI s) (toI s)=true from by simp[eqL]]
 have HG7:=Lib.hid (HG6.out.trans he7)
 clear he7
 go_simp
 refine hK.out _ _ (HSa.out _ _ HG7.out) (fun hHeld7=>?_)
 clear hHeld6
 refine tk 11 (v:=.bool false) ?d11 ?_
 case d11=>(intro w' ⟨s0,s1,s2⟩;go_simp;try with_reducible rfl)
 try simp only[Act.put,rd]
 refine tk 12 (v:=.bool false) ?d12 ?_
 case d12=>(intro w' ⟨s0,s1,s2⟩;go_simp;try with_reducible rfl)
 try simp only[Act.put,rd]
 refine tk 13 (v:=.bool false) ?d13 ?_
 case d13=>(intro w' ⟨s0,s1,s2⟩;go_simp;try with_reducible rfl)
 try simp only[Act.put,rd]
 refine tk 14 (v:=?c14) ?d14 ?_
 case d14=>(intro w' ⟨s0,s1,s2⟩;go_simp;try with_reducible rfl)
 try simp only[Act.put,rd]
 refine tk 16 (v:=?c16) ?d16 ?_
 case d16=>(intro w' ⟨s0,s1,s2⟩;go_simp;try with_reducible rfl)
 try simp only[Act.put,rd]
 refine tk 17 (v:=?c17) ?d17 ?_
 case d17=>(intro w' ⟨s0,s1,s2⟩;go_simp;try with_reducible rfl)
 try simp only[Act.put,rd]
 refine nx 15 fun K hK=>?_
 go_simp
 refine (root_any R3 w7 HG7.out.inv p3 s root lone (HG7.out.map HM5.out)).mono ?_
 rintro z w8 ⟨rfl,rfl⟩
 have HG8:=HG7
 go_simp
 refine hK.out _ _ (HSa.out _ _ HG8.out) (fun hHeld8=>?_)
 clear hHeld7
 refine tk 18 (v:=.bool false) ?d18 ?_
 case d18=>(intro w' ⟨s0,s1,s2⟩;go_simp;try with_reducible rfl)
 try simp only[Act.put,rd]
 refine tk 19 (v:=.bool false) ?d19 ?_
 case d19=>(intro w' ⟨s0,s1,s2⟩;go_simp;try with_reducible rfl)
 try simp only[Act.put,rd]
 refine tk 20 (v:=.bool false) ?d20 ?_
 case d20=>(intro w' ⟨s0,s1,s2⟩;go_simp;try with_reducible rfl)
 try simp only[Act.put,rd]
 refine tk 21 (v:=?c21) ?d21 ?_
 case d21=>(intro w' ⟨s0,s1,s2⟩;go_simp;try with_reducible rfl)
 try simp only[Act.put,rd]
 refine tk 23 (v:=?c23) ?d23 ?_
 case d23=>(intro w' ⟨s0,s1,s2⟩;go_simp;try with_reducible rfl)
 try simp only[Act.put,rd]
 refine tk 24 (v:=?c24) ?d24 ?_
 case d24=>(intro w' ⟨s0,s1,s2⟩;go_simp;try with_reducible rfl)
 try simp only[Act.put,rd]
 refine nx 22 fun K hK=>?_
 go_simp
 refine (lone_any R3 w7 HG7.out.inv p3 s root lone (HG7.out.map HM5.out)).mono ?_
 rintro z w8 ⟨rfl,rfl⟩
 have HG9:=HG7
 go_simp
 refine hK.out _ _ (HSa.out _ _ HG9.out) (fun hHeld9=>?_)
 clear hHeld8
 refine tk 25 (v:=.bool false) ?d25 ?_
 case d25=>(intro w' ⟨s0,s1,s2⟩;go_simp;try with_reducible rfl)
 try simp only[Act.put,rd]
 refine tk 26 (v:=.bool false) ?d26 ?_
 case d26=>(intro w' ⟨s0,s1,s2⟩;go_simp;try with_reducible rfl)
 try simp only[Act.put,rd]
 refine tk 27 (v:=.bool false) ?d27 ?_
 case d27=>(intro w' ⟨s0,s1,s2⟩;go_simp;try with_reducible rfl)
 try simp only[Act.put,rd]
 refine tk 28 (v:=?c28) ?d28 ?_
 case d28=>(intro w' ⟨s0,s1,s2⟩;go_simp;try with_reducible rfl)
 try simp only[Act.put,rd]
 refine nx 29 fun K hK=>?_
 go_simp
 refine (planar_any R3 w7 HG7.out.inv p3 s root lone (HG7.out.map HM5.out)).mono ?_
 rintro z w10 ⟨rfl,R10,he10⟩
 rw[hgen]
 have HG10:=Lib.hid (HG7.out.trans he10)
 clear he10
 go_simp
 refine hK.out _ _ (HSa.out _ _ HG10.out) (fun hHeld10=>?_)
 clear hHeld9
 refine tk 30 (v:=.bool false) ?d30 ?_
 case d30=>(intro w' ⟨s0,s1,s2⟩;go_simp;try with_reducible rfl)
 try simp only[Act.put,rd]
 refine tk 31 (v:=.bool false) ?d31 ?_
 case d31=>(intro w' ⟨s0,s1,s2⟩;go_simp;try with_reducible rfl)
 try simp only[Act.put,rd]
 refine wpAnyH_done (by kernel_rfl) ?_ _
 clear hHeld10
 have HV:=Lib.hid (HV5.out.ev HG10.out)
 have HO:=Lib.hid (HO5.out.ev HG10.out)
 have HEz:=Lib.hid (HEw.out.trans HG10.out)
 clear HV5 HO5 HM5 HF5 HSa
 go_wp2_with fail
 go_loopg [57] q (fun g v57 wr=>∃ i:Nat,i≤q∧q-i≤g∧v57=.int .i64 (i:Int)∧wr=w10)
 case atStart=>exact⟨0,Nat.zero_le _,by omega,rfl,rfl⟩
 case round=>
  obtain⟨i,hiq,hg,rfl,rfl⟩:=hrel
  by_cases hi:i<q
  ·have hir:(i:Int)<(q:Int):=by omega
   obtain⟨g3,rfl,_,_,x0,_⟩:=HV.out.headAt (i:=i) (by rw[List.length_map,HCl.out];exact hi)
   obtain⟨g7,rfl,_,_,y0,_⟩:=HO.out.headAt HCl.out hi
   rw[List.getElem?_map,List.getElem?_eq_getElem (by rw[HCl.out];exact hi)] at x0
   obtain⟨C,hC⟩:∃ C,cd[i]'(by rw[HCl.out];exact hi)=C:=⟨_,rfl⟩
   have hC2:nth cd i=C:=by rw[←hC];simp[nth,HCl.out,hi]
   rw[hC] at x0
   rw[hC2] at y0
   have x0:wr.cell? ⟨g3,i,none⟩=some (.int .i64 C):=x0
   have hcc:(C != C)=false:=bne_self_eq_false _
   clear hC hC2
   go_wp2_with fail
   go_roundg (q-(i+1))
   case measure=>omega
   case rel=>exact⟨i+1,by omega,by omega,by go_num,rfl⟩
  ·have hir:¬ (i:Int)<(q:Int):=by omega
   go_wp2_with fail
   go_ret
   exact⟨rfl,_,HEz.out⟩
end
end Go.Proofs.YtklkgicjfnbndaaGreat
