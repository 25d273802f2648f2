/- parquetryref24.Do, of any kind: what script.Do does. -/
import Derived.Test.YtklkgicjfnbndaaGreatZScriptPlays53
import Derived.Test.YtklkgicjfnbndaaGreatZScriptPlays47
namespace Go.Proofs.YtklkgicjfnbndaaGreat
section
open Go.RowKit
set_option linter.unusedVariables false
set_option linter.unusedSimpArgs false
set_option maxRecDepth 100000 in
set_option maxHeartbeats 2000000 in
theorem y_way (R:Reg) (w:World) (hI:Inv R w) (v:Value) (s:List Nat) (root lone:Int) (hv:FreeI R w v (toI s)) (hS:IsPerm s) (hn:s.length≤99000) (hev:s.length % 2=0) (k:Nat) (hk:k<5) (d e:Int) (hst:k=3→∀ D:Nat,d=(D:Int)→D<s.length→s.length+2*(orbitL (phiL s) D).length≤99000):
  Calls Tryz.prog 38 #[refV v root lone,.int .i64 (k:Int),.int .i64 d,.int .i64 e] w (fun z w2=>(wayR s.length k d e=false∧RetD R w v s root lone 1 z w2)∨(wayR s.length k d e=true∧wayB s k d e=false∧RetD R w v s root lone 8 z w2)∨(wayR s.length k d e=true∧wayB s k d e=true∧RetD R w v (wayL s k d e) root lone 0 z w2)):=by
 obtain⟨a0,c0,rfl,_⟩:=hv.open
 rw[toI_length] at hv ⊢
 unfold refV
 have he0:Ev R w R (w.alloc (.cells #[.slice a0 s.length c0,.int .i64 root,.int .i64 lone] 27)):=(Ev.refl hI).alloc _
 have he01:Ev R (w.alloc (.cells #[.slice a0 s.length c0,.int .i64 root,.int .i64 lone] 27)) R ((w.alloc (.cells #[.slice a0 s.length c0,.int .i64 root,.int .i64 lone] 27)).alloc (.cells #[.slice none 0 0,.int .i64 0,.int .i64 0] 27)):=(Ev.refl he0.inv).alloc _
 have he1:Ev R w R ((w.alloc (.cells #[.slice a0 s.length c0,.int .i64 root,.int .i64 lone] 27)).alloc (.cells #[.slice none 0 0,.int .i64 0,.int .i64 0] 27)):=he0.trans he01
 have hn1:R w.heap.size=none:=hI.none_of_ge (Nat.le_refl _)
 have hB1:=fun w' (h:Ev R ((w.alloc (.cells #[.slice a0 s.length c0,.int .i64 root,.int .i64 lone] 27)).alloc (.cells #[.slice none 0 0,.int .i64 0,.int .i64 0] 27)) R w')=>(he01.trans h).boxC3 (heap_alloc_new w _) hn1
 have hB2:=fun w' (h:Ev R ((w.alloc (.cells #[.slice a0 s.length c0,.int .i64 root,.int .i64 lone] 27)).alloc (.cells #[.slice none 0 0,.int .i64 0,.int .i64 0] 27)) R w')=>h.boxC3 (heap_alloc_new (w.alloc (.cells #[.slice a0 s.length c0,.int .i64 root,.int .i64 lone] 27)) (.cells #[.slice none 0 0,.int .i64 0,.int .i64 0] 27)) (he0.inv.none_of_ge (Nat.le_refl _))
 have hza:((w.alloc (.cells #[.slice a0 s.length c0,.int .i64 root,.int .i64 lone] 27)).alloc (.cells #[.slice none 0 0,.int .i64 0,.int .i64 0] 27)).heap.size=w.heap.size+2:=by simp
 rw[World.size_alloc] at hB2
 obtain⟨n,hnn⟩:∃ n,s.length=n:=⟨_,rfl⟩
 have HNn:=Lib.hid hnn
 rw[hnn] at he0 he01 he1 hB1 hB2 hn hev hza ⊢
 rw[HNn.out] at hst
 have HHv:=Lib.hid hv
 have HSp:=Lib.hid hS
 clear hv hnn hS
 go_enter Tryz.func38,Tryz.ntmps38
 go_upto_region 1 with fail
 obtain⟨wa,hwa⟩:∃ wa,(w.alloc (.cells #[.slice a0 n c0,.int .i64 root,.int .i64 lone] 27)).alloc (.cells #[.slice none 0 0,.int .i64 0,.int .i64 0] 27)=wa:=⟨_,rfl⟩
 try rw[hwa] at he1 hB1 hB2 hza ⊢
 have HB1:=Lib.hid (fun w' (h:Ev R wa R w')=>boxC_cells (hB1 w' h).1)
 have HB2:=Lib.hid hB2
 have HZa:=Lib.hid hza
 have HEa:=Lib.hid he1
 have HE0:=Lib.hid (Ev.refl he1.inv)
 obtain⟨x0,x1,x2,_⟩:=HB1.out _ (Ev.refl he1.inv)
 obtain⟨y0,y1,y2,yz⟩:=boxC_cells (HB2.out _ (Ev.refl he1.inv)).1
 clear he0 he01 he1 hB1 hB2 hza hwa hn1 hI
 have b1:decide ((k:Int)<0)=false:=decide_eq_false (by omega)
 have b2:decide (10<(k:Int))=false:=decide_eq_false (by omega)
 have b3:decide ((k:Int)<5)=true:=decide_eq_true (by omega)
 have b4:k<5:=hk
 have b5:k≤10:=by omega
 have hca:=r23do_any R wa HE0.out.inv (.slice a0 s.length c0) s root lone (HHv.out.ev HEa.out) HSp.out (by rw[HNn.out];omega) (by rw[HNn.out];exact hev) k hk d e (by rw[HNn.out];exact hst)
 rw[HNn.out] at hca
 unfold refV at hca
 obtain⟨WR,hWR⟩:∃ x,wayR n k d e=x:=⟨_,rfl⟩
 obtain⟨WB,hWB⟩:∃ x,wayB s k d e=x:=⟨_,rfl⟩
 obtain⟨WL,hWL⟩:∃ x,wayL s k d e=x:=⟨_,rfl⟩
 rw[hWR,hWB,hWL] at hca
 have HWR:=Lib.hid hWR
 have HWB:=Lib.hid hWB
 have HWL:=Lib.hid hWL
 have HCa:=Lib.hid hca
 clear hca hst hWR hWB hWL
 go_wp2_with fail
 refine HCa.out.mono ?_
 rintro z w2 (⟨hw1,rfl,he2⟩|⟨hw1,hw2,rfl,he2⟩|⟨hw1,hw2,af,cf,rfl,he2,hof⟩)
 ·have HE2:=Lib.hid he2
  have HW1:=Lib.hid hw1
  clear he2 hw1 x0 x1 x2 y0 y1 y2 yz
  obtain⟨y0,y1,y2,yz⟩:=boxC_cells (HB2.out _ HE2.out).1
  try simp only[refV]
  go_wp2_with fail
  have hb3:=set3 (x:=.slice a0 n c0) (y:=.int .i64 (root)) (z:=.int .i64 (lone)) (HB2.out _ HE2.out).1
  obtain⟨u0,u1,u2,_⟩:=boxC_cells hb3
  have hn2:=(HB2.out _ HE2.out).2
  have hfin:=(((HEa.out.trans HE2.out).setCell (p:=⟨w.heap.size+1,0,none⟩) (by simp) hn2 (.slice a0 n c0)).setCell (p:=⟨w.heap.size+1,1,none⟩) (by simp) hn2 (.int .i64 (root))).setCell (p:=⟨w.heap.size+1,2,none⟩) (by simp) hn2 (.int .i64 (lone))
  refine bodyPost_ret (v:=.tuple #[refV (.slice a0 n c0) (root) (lone),.int .i64 1]) ?_ rfl (Or.inl ⟨HWR.out.trans HW1.out,⟨.slice a0 n c0,rfl,hfin,?_,fun k e=>Or.inl e⟩⟩)
  ·simp[results,Tryz.results38,go_sem,u0,u1,u2,refV]
  ·have:=HHv.out.ev hfin
   rwa [HNn.out] at this
 ·have HE2:=Lib.hid he2
  have HW1:=Lib.hid hw1
  have HW2:=Lib.hid hw2
  clear he2 hw1 hw2 x0 x1 x2 y0 y1 y2 yz
  obtain⟨y0,y1,y2,yz⟩:=boxC_cells (HB2.out _ HE2.out).1
  try simp only[refV]
  go_wp2_with fail
  have hb3:=set3 (x:=.slice a0 n c0) (y:=.int .i64 (root)) (z:=.int .i64 (lone)) (HB2.out _ HE2.out).1
  obtain⟨u0,u1,u2,_⟩:=boxC_cells hb3
  have hn2:=(HB2.out _ HE2.out).2
  have hfin:=(((HEa.out.trans HE2.out).setCell (p:=⟨w.heap.size+1,0,none⟩) (by simp) hn2 (.slice a0 n c0)).setCell (p:=⟨w.heap.size+1,1,none⟩) (by simp) hn2 (.int .i64 (root))).setCell (p:=⟨w.heap.size+1,2,none⟩) (by simp) hn2 (.int .i64 (lone))
  refine bodyPost_ret (v:=.tuple #[refV (.slice a0 n c0) (root) (lone),.int .i64 8]) ?_ rfl (Or.inr (Or.inl ⟨HWR.out.trans HW1.out,HWB.out.trans HW2.out,⟨.slice a0 n c0,rfl,hfin,?_,fun k e=>Or.inl e⟩⟩))
  ·simp[results,Tryz.results38,go_sem,u0,u1,u2,refV]
  ·have:=HHv.out.ev hfin
   rwa [HNn.out] at this
 ·have HE2:=Lib.hid he2
  have HOf:=Lib.hid hof
  have HSf:=Lib.hid (Nat.le_refl wa.heap.size)
  have HW1:=Lib.hid hw1
  have HW2:=Lib.hid hw2
  clear he2 hof hw1 hw2 x0 x1 x2 y0 y1 y2 yz
  try simp only[refV]
  obtain⟨y0,y1,y2,yz⟩:=boxC_cells (HB2.out _ HE2.out).1
  obtain⟨lf,hlf⟩:∃ l,(WL).length=l:=⟨_,rfl⟩
  rw[hlf] at HOf
  try rw[hlf]
  clear hlf
  go_wp2_with fail
  have hb3:=set3 (x:=.slice af lf cf) (y:=.int .i64 (root)) (z:=.int .i64 (lone)) (HB2.out _ HE2.out).1
  obtain⟨u0,u1,u2,_⟩:=boxC_cells hb3
  have hn2:=(HB2.out _ HE2.out).2
  have hne:∀ (o:Nat),(Value.slice af lf cf).ownBlock≠some (⟨w.heap.size+1,o,none⟩:Addr).block:=fun o e'=>by
   have h1:=(HOf.out.lt _ e').1
   have h2:=HZa.out
   have h4:=HSf.out
   have h3:(⟨w.heap.size+1,o,none⟩:Addr).block=w.heap.size+1:=rfl
   omega
  refine bodyPost_ret (v:=.tuple #[refV (.slice af lf cf) (root) (lone),.int .i64 0]) ?_ rfl (Or.inr (Or.inr ⟨HWR.out.trans HW1.out,HWB.out.trans HW2.out,⟨.slice af lf cf,rfl,?_,by rw[HWL.out];exact ((((HOf.out).setCell (hne 0) _).setCell (hne 1) _).setCell (hne 2) _).free,fun k e=>Or.inr ⟨by have:=(HOf.out.lt _ e).1;have:=HZa.out;have:=HSf.out;omega,by simp only[World.size_setCell];exact (HOf.out.lt _ e).2⟩⟩⟩))
  ·simp[results,Tryz.results38,go_sem,u0,u1,u2,refV]
  ·exact (((HEa.out.trans HE2.out).setCell (by simp) hn2 _).setCell (by simp) hn2 _).setCell (by simp) hn2 _
theorem r24do_any (R:Reg) (w:World) (hI:Inv R w) (v:Value) (s:List Nat) (root lone:Int) (hv:FreeI R w v (toI s)) (hS:IsPerm s) (hn:s.length≤99000) (hok:MapOk s root lone) (k d e:Int)
  (hst:k=3→∀ D:Nat,d=(D:Int)→D<s.length→s.length+2*(orbitL (phiL s) D).length≤99000)
  (hnw:∀ j:Nat,k=(j:Int)→j<5→wayR s.length j d e=true→wayB s j d e=true→newErr (toI (wayL s j d e)) root lone=0):
  Calls Tryz.prog 38 #[refV v root lone,.int .i64 k,.int .i64 d,.int .i64 e] w (fun z w2=>RetD R w v (if actC s root lone k d e=0 then actM s root k d e else s) (if actC s root lone k d e=0 then actRt s root k d else root) (if actC s root lone k d e=0 then actLn s lone k d else lone) (actC s root lone k d e) z w2):=by
 have hev:=hok.1
 have fin0:∀ (C:Int) (M:List Nat) (rt ln:Int) (z:Ending) (w2:World),actC s root lone k d e=C→(C=0→actM s root k d e=M∧actRt s root k d=rt∧actLn s lone k d=ln)→(C≠0→M=s∧rt=root∧ln=lone)→RetD R w v M rt ln C z w2 →
   RetD R w v (if actC s root lone k d e=0 then actM s root k d e else s) (if actC s root lone k d e=0 then actRt s root k d else root) (if actC s root lone k d e=0 then actLn s lone k d else lone) (actC s root lone k d e) z w2:=by
  intro C M rt ln z w2 hC h0 h1 hr
  rw[hC]
  by_cases hc:C=0
  ·rw[if_pos hc,if_pos hc,if_pos hc]
   obtain⟨a,b,c⟩:=h0 hc
   rw[a,b,c];exact hr
  ·rw[if_neg hc,if_neg hc,if_neg hc]
   obtain⟨a,b,c⟩:=h1 hc
   rw[a,b,c] at hr;exact hr
 have no0:∀ {C:Int} (h:C≠0) {P:Prop},C=0→P:=fun h _ h'=>absurd h' h
 by_cases hk:k<0∨10<k
 ·exact (y_opt R w hI v s root lone hv hS hn hev k d e hk).mono fun z w2 h=>fin0 15 s root lone z w2 (by unfold actC;rw[if_pos hk]) (no0 (by decide)) (fun _=>⟨rfl,rfl,rfl⟩) h
 ·by_cases h5:k<5
  ·obtain⟨j,rfl⟩:∃ j:Nat,k=(j:Int):=⟨k.toNat,by omega⟩
   have hj:j<5:=by omega
   have hrl:actRt s root (j:Int) d=root∧actLn s lone (j:Int) d=lone:=by
    rcases (by omega:j=0∨j=1∨j=2∨j=3∨j=4) with rfl|rfl|rfl|rfl|rfl <;> exact⟨rfl,rfl⟩
   obtain⟨hc,hm⟩:=actC_way s root lone hj d e
   refine (y_way R w hI v s root lone hv hS hn hev j hj d e (fun h=>hst (by rw[h];rfl))).mono fun z w2 h=>?_
   rcases h with ⟨a,h⟩|⟨a,b,h⟩|⟨a,b,h⟩
   ·exact fin0 1 s root lone z w2 (by rw[hc];unfold wayC;rw[if_pos a]) (no0 (by decide)) (fun _=>⟨rfl,rfl,rfl⟩) h
   ·exact fin0 8 s root lone z w2 (by rw[hc];unfold wayC;rw[if_neg (by rw[a];simp),if_pos b]) (no0 (by decide)) (fun _=>⟨rfl,rfl,rfl⟩) h
   ·exact fin0 0 _ root lone z w2 (by rw[hc];unfold wayC;rw[if_neg (by rw[a];simp),if_neg (by rw[b];simp)];exact hnw j rfl hj a b) (fun _=>⟨hm,hrl⟩) (fun h=>absurd rfl h) h
  ·have hroot:s.length=0∨(0≤root∧root<s.length):=by have:=hok.2.2.2.2;omega
   have hlone:0≤lone∧lone≤65536:=⟨hok.2.2.1,hok.2.2.2.1⟩
   rcases (by omega:k=5∨k=6∨k=7∨k=8∨k=9∨k=10) with rfl|rfl|rfl|rfl|rfl|rfl
   ·by_cases hd:0≤d∧d<s.length
    ·exact (y_root R w hI v s root lone hv hS hn hev d e hd).mono fun z w2 h=>fin0 0 s d lone z w2 (by
      show (if inR s.length d=true then (0:Int) else 5)=0
      unfold inR;rw[if_pos (decide_eq_true hd)]) (fun _=>⟨rfl,rfl,rfl⟩) (fun h=>absurd rfl h) h
    ·exact (y_noroot R w hI v s root lone hv hS hn hev d e (by omega)).mono fun z w2 h=>fin0 5 s root lone z w2 (by
      show (if inR s.length d=true then (0:Int) else 5)=5
      unfold inR;rw[if_neg (by rw[decide_eq_false hd];simp)]) (no0 (by decide)) (fun _=>⟨rfl,rfl,rfl⟩) h
   ·exact (y_dual R w hI v s root lone hv hS hn hev d e).mono fun z w2 h=>fin0 0 (phiL s) root lone z w2 rfl (fun _=>⟨rfl,rfl,rfl⟩) (fun h=>absurd rfl h) h
   ·exact (y_mirror R w hI v s root lone hv hS hn hev d e).mono fun z w2 h=>fin0 0 (invL s) root lone z w2 rfl (fun _=>⟨rfl,rfl,rfl⟩) (fun h=>absurd rfl h) h
   ·have hform:actC s root lone 8 d e=(if d<0 then 1 else if d.toNat<s.length then 0 else 1):=rfl
    by_cases hd:d<0∨(s.length:Int)≤d
    ·exact (y_out8 R w hI v s root lone hv hS hn hev d e hd).mono fun z w2 h=>fin0 1 s root lone z w2 (by
      rw[hform]
      by_cases h0:d<0
      ·rw[if_pos h0]
      ·rw[if_neg h0,if_neg (by omega)]) (no0 (by decide)) (fun _=>⟨rfl,rfl,rfl⟩) h
    ·obtain⟨D,rfl⟩:∃ D:Nat,d=(D:Int):=⟨d.toNat,by omega⟩
     have hD:D<s.length:=by omega
     exact (y_cut R w hI v s root lone hv hS hn hev D hD e (by omega) hlone).mono fun z w2 h=>fin0 0 _ _ _ z w2 (by rw[hform,if_neg (by omega),if_pos (by rw[Int.toNat_natCast];exact hD)]) (fun _=>⟨rfl,rfl,rfl⟩) (fun h=>absurd rfl h) h
   ·have hform:actC s root lone 9 d e=(if d<0 then 1 else if d.toNat<s.length then (if nth (namesL s) (2*(d.toNat / 2))=nth (namesL s) (2*(d.toNat / 2)+1) then 8 else 0) else 1):=rfl
    by_cases hd:d<0∨(s.length:Int)≤d
    ·exact (y_out9 R w hI v s root lone hv hS hn hev d e hd).mono fun z w2 h=>fin0 1 s root lone z w2 (by
      rw[hform]
      by_cases h0:d<0
      ·rw[if_pos h0]
      ·rw[if_neg h0,if_neg (by omega)]) (no0 (by decide)) (fun _=>⟨rfl,rfl,rfl⟩) h
    ·obtain⟨D,rfl⟩:∃ D:Nat,d=(D:Int):=⟨d.toNat,by omega⟩
     have hD:D<s.length:=by omega
     refine (y_shr R w hI v s root lone hv hS hn hev D hD e (by omega) hlone).mono fun z w2 h=>?_
     rcases h with ⟨a,h⟩|⟨a,h⟩
     ·exact fin0 8 s root lone z w2 (by rw[hform,if_neg (by omega),if_pos (by rw[Int.toNat_natCast];exact hD),Int.toNat_natCast,if_pos a]) (no0 (by decide)) (fun _=>⟨rfl,rfl,rfl⟩) h
     ·exact fin0 0 _ _ _ z w2 (by rw[hform,if_neg (by omega),if_pos (by rw[Int.toNat_natCast];exact hD),Int.toNat_natCast,if_neg a]) (fun _=>⟨rfl,rfl,rfl⟩) (fun h=>absurd rfl h) h
   ·exact (y_canon R w hI v s root lone hv hS hn hev hok d e).mono fun z w2 h=>fin0 0 _ _ lone z w2 rfl (fun _=>⟨rfl,rfl,rfl⟩) (fun h=>absurd rfl h) h
end
end Go.Proofs.YtklkgicjfnbndaaGreat
