/- parquetryref10.Cut, Shrink. -/
import Derived.Test.YtklkgicjfnbndaaZGrowPlays27
import Derived.Deep.RegionHeld3
import Derived.Deep.RegionLaw
import Derived.Test.YtklkgicjfnbndaaZGrowPlays22
import Derived.Test.YtklkgicjfnbndaaZGrowPlays14
import Derived.Test.YtklkgicjfnbndaaZGrowPlays12
namespace Go.Proofs.Ytklkgicjfnbndaa
section
open Go.RowKit
set_option linter.unusedVariables false
theorem one_cell (w:World) (u:Value):∀ j x,[u][j]?=some x→(w.alloc (.cells #[u] 25)).cell? ((⟨w.heap.size,0,none⟩:Addr).add j)=some x:=by
 intro j x hj
 match j,hj with
 | 0,hj=>
  simp only[List.getElem?_cons_zero,Option.some.injEq] at hj
  subst hj
  simp[Addr.add]
theorem one_one (a:Option Addr) (n c:Nat):∀ u∈[Value.slice a n c],u.oneCell'=true:=by
 intro u hu
 simp only[List.mem_singleton] at hu
 subst hu
 rfl
theorem OwnI.capLe {R:Reg} {B:Nat} {E:TypeId} {w:World} {a:Option Addr} {n c:Nat} {xs:List Int} (h:OwnI R B E w (.slice a n c) xs) (hn:xs.length=n):n≤c:=by
 subst hn
 rcases h.1.2 with ⟨e1,e2⟩|⟨g,cap,cur,e,hbg,hg,hnc,hcm,hcs,htake⟩
 ·simp at e1;omega
 ·cases e;exact hnc
theorem run_app_nil (ty:TypeId) (w:World) (a:Option Addr) (n c:Nat) (x:Option Addr) (c':Nat) (hc:n≤c):
  (Builtin.append_ #[25,25] ty #[.slice a n c,.slice x 0 c']).run Try.prog w=.ok (.slice a n c) w:=by
 cases a <;> cases x <;> simp[Builtin.append_,go_sem,hc,Builtin.lenOf,Builtin.firstCells]
def RowsAt (R:Reg) (B:Nat) (w:World) (v:Value) (xss:List (List Nat)):Prop:=
 ∃ a c vs,v=.slice a xss.length c∧OwnV R B 25 1 w (.slice a xss.length c) xss.length vs∧RowsLL R w (fun k=>(Value.slice a xss.length c).ownBlock=some k) vs xss
theorem rows_next {R:Reg} {B:Nat} {w w':World} {a:Option Addr} {n c:Nat} {v' u:Value} {vs:List Value} {xss:List (List Nat)} {X:List Nat} (hn:n=xss.length) (hrw:RowsLL R w (fun k=>(Value.slice a n c).ownBlock=some k) vs xss) (hrow:RowOk R w (fun k=>(Value.slice a n c).ownBlock=some k) u X)
  (ho:OwnV R B 25 1 w' v' (n+1) (vs ++ [u])) (hg:w.grownBy w' (Value.slice a n c).ownBlock) (hs:∀ k,v'.ownBlock=some k→(Value.slice a n c).ownBlock=some k∨w.heap.size≤k):RowsAt R B w' v' (xss ++ [X]):=by
 obtain⟨a8,c8,rfl,_⟩:=ho.open
 have e:(xss ++ [X]).length=n+1:=by simp[hn]
 have h7:=(hrw.app hrow).re (X':=fun q=>(Value.slice a n c).ownBlock=some q∨(Value.slice a8 (n+1) c8).ownBlock=some q) fun q hq hx hx'=>by
  rcases hx' with h1|h1
  ·exact hx h1
  ·rcases hs q h1 with h2|h2
   ·exact hx h2
   ·omega
 have h8:=(h7.kept hg fun q hq=>Or.inl hq).re (X':=fun q=>(Value.slice a8 (n+1) c8).ownBlock=some q) fun q _ hx h'=>hx (Or.inr h')
 exact⟨a8,c8,vs ++ [u],by rw[e],by rw[e];exact ho,by rw[e];exact h8⟩
theorem RowsAt.ev {R R':Reg} {B:Nat} {w w':World} {v:Value} {xss:List (List Nat)} (h:RowsAt R B w v xss) (he:Ev R w R' w'):RowsAt R' B w' v xss:=by
 obtain⟨a,c,vs,h1,h2,h3⟩:=h
 exact⟨a,c,vs,h1,h2.ev he,h3.ev he⟩
theorem rowOk_new {R:Reg} {w5 w6:World} {B n N c:Nat} {a:Option Addr} {v5:Value} {xs:List Value} {F:List Nat} (ho:OwnI R w5.heap.size 3 w6 (.slice a N c) (toI F)) (hN:F.length=N) (hO:OwnV R B 25 1 w5 v5 n xs):RowOk R w6 (fun k=>v5.ownBlock=some k) (.slice a N c) F:=by
 subst hN
 refine⟨a,c,rfl,ho.free,fun q hq=>⟨fun hx=>?_,(ho.lt q hq).2⟩⟩
 have h1:=(ho.lt q hq).1
 have h2:=(hO.lt q hx).2
 omega
end
section
open Go.RowKit
set_option linter.unusedVariables false
def aftF (t d x:Nat):List Nat:=if x=t then [x,d] else [x]
def witF (d x:Nat):List Nat:=if x=d then [] else [x]
def outL (f:Nat→List Nat) (xss:List (List Nat)):List (List Nat):=xss.map fun v=>v.flatMap f
theorem outL_take {f:Nat→List Nat} {xss:List (List Nat)} {i:Nat} (hi:i<xss.length):outL f (xss.take (i+1))=outL f (xss.take i) ++ [(xss.getD i []).flatMap f]:=by
 unfold outL
 rw[List.take_succ_eq_append_getElem hi,List.map_append]
 simp[List.getD,hi]
theorem flat_take {f:Nat→List Nat} {X:List Nat} {j:Nat} (hj:j<X.length):(X.take (j+1)).flatMap f=(X.take j).flatMap f ++ f (at' X j):=by
 rw[List.take_succ_eq_append_getElem hj,List.flatMap_append,at'_eq hj]
 simp
theorem flat_len {f:Nat→List Nat} (hf:∀ x,(f x).length≤2):∀ (X:List Nat),(X.flatMap f).length≤2*X.length
 | []=>by simp
 | x :: X=>by
  have:=flat_len hf X
  have:=hf x
  rw[List.flatMap_cons,List.length_append,List.length_cons]
  omega
def RowsSm (xss:List (List Nat)):Prop:=xss.length≤100000∧∀ i,i<xss.length→(xss.getD i []).length≤100000∧∀ x,x∈xss.getD i []→x≤1000000
set_option maxRecDepth 100000 in
set_option maxHeartbeats 4000000 in
theorem after_any (R:Reg) (w:World) (hI:Inv R w) (B:Nat) (v:Value) (xss:List (List Nat)) (hv:RowsAt R B w v xss) (hsm:RowsSm xss) (t d:Nat) (ht:t≤1000000) (hd:d≤1000000):
  Calls Try.prog 37 #[v,.int .i64 (t:Int),.int .i64 (d:Int)] w (RetLL R w (outL (aftF t d) xss)):=by
 obtain⟨a,c,vs,rfl,hov,hrw⟩:=hv
 obtain⟨hl,hrs⟩:=hsm
 obtain⟨n,hn⟩:∃ n,xss.length=n:=⟨_,rfl⟩
 have HN:=Lib.hid hn
 have HI:=Lib.hid hI
 have HRs:=Lib.hid hrs
 obtain⟨f,hf⟩:∃ f,(aftF t d)=f:=⟨_,rfl⟩
 have hf2:∀ x,(f x).length≤2:=fun x=>by rw[←hf];unfold aftF;split <;> simp
 have HF:=Lib.hid hf
 have HF2:=Lib.hid hf2
 rw[hf]
 rw[hn] at hov hrw hl hrs ⊢
 have HOv:=Lib.hid hov
 have HRw:=Lib.hid hrw
 clear hI hov hrw hn hrs hf hf2
 go_enter Try.func37,Try.ntmps37
 go_wp2_with fail
 go_loopg [7,15] n (fun g v7 v15 wr=>∃ (i:Nat),i≤n∧n-i≤g∧v15=.int .i64 (i:Int)∧Ev R w R wr∧RowsAt R w.heap.size wr v7 (outL f (xss.take i)))
 case atStart=>exact⟨0,Nat.zero_le _,by omega,rfl,Ev.refl HI.out,none,0,[],rfl,OwnV.nil _ _ _ _ _,RowsLL.nil _ _ _⟩
 case round=>
  obtain⟨i,hin,hg,rfl,hev,hra⟩:=hrel
  have HE:=Lib.hid hev
  by_cases hi:i<n
  ·obtain⟨a7,c7,vs7,rfl,hov7,hrw7⟩:=hra
   have hl7:(outL f (xss.take i)).length=i:=by unfold outL;rw[List.length_map,List.length_take,HN.out];omega
   rw[hl7] at hov7 hrw7 ⊢
   have HOv7:=Lib.hid hov7
   have HRw7:=Lib.hid hrw7
   have HL7:=Lib.hid hl7
   obtain⟨u,hu,ai,ci,hue,hfr,_⟩:=(HRw.out.ev hev).row i (by rw[HN.out];exact hi)
   have hui:i<vs.length:=by rw[HRw.out.len,HN.out];exact hi
   obtain⟨g0,rfl,_,_,hc0,_⟩:=(HOv.out.ev hev).headAt (i:=i) hui
   rw[hu] at hc0
   obtain⟨X,hX⟩:∃ X,xss.getD i []=X:=⟨_,rfl⟩
   rw[hX] at hue hfr
   subst hue
   have hxs:=HRs.out i (by rw[HN.out];exact hi)
   rw[hX] at hxs
   obtain⟨L,hL⟩:∃ L,X.length=L:=⟨_,rfl⟩
   rw[hL] at hfr hxs hc0
   have HLe:=Lib.hid hL
   have HXe:=Lib.hid hX
   have HFr:=Lib.hid hfr
   have HXs:=Lib.hid hxs
   have hir:(i:Int)<(n:Int):=by omega
   have hLb:L≤100000:=HXs.out.1
   obtain⟨wr0,hwr0⟩:∃ x,x=wr:=⟨_,rfl⟩
   subst hwr0
   clear hu hov7 hrw7 hl7 hev hL hX hfr hxs
   go_wp2_with fail
   go_loopg [10,21] L (fun g v10 v21 wq=>∃ (j:Nat) (a10:Option Addr) (l10 c10:Nat),j≤L∧L-j≤g∧v21=.int .i64 (j:Int)∧v10=.slice a10 l10 c10∧Ev R wr0 R wq∧OwnI R wr0.heap.size 3 wq (.slice a10 l10 c10) (toI ((X.take j).flatMap f)))
   case atStart=>exact⟨0,none,0,0,Nat.zero_le _,by omega,rfl,rfl,Ev.refl HE.out.inv,OwnI.nil _ _ _ _⟩
   case round=>
    clear hc0
    obtain⟨j,a10,l10,c10,hjl,hgj,rfl,rfl,hevq,hoq⟩:=hrel
    have HEq:=Lib.hid hevq
    have HOq:=Lib.hid hoq
    clear hevq hoq
    by_cases hj:j<L
    ·obtain⟨bS,oS,rfl,hcx⟩:=(HFr.out.ev HEq.out).at (i:=j) (by rw[HLe.out];exact hj)
     obtain⟨x,hx⟩:∃ x,at' X j=x:=⟨_,rfl⟩
     rw[hx] at hcx
     have hjr:(j:Int)<(L:Int):=by omega
     have hft:=flat_take (f:=f) (X:=X) (j:=j) (by rw[HLe.out];exact hj)
     rw[hx] at hft
     have hlt:(toI ((X.take j).flatMap f)).length≤200000:=by
      have h1:=flat_len HF2.out (X.take j)
      have h2:=HXs.out.1
      rw[toI_length]
      rw[List.length_take] at h1
      omega
     have HLt:=Lib.hid hlt
     have HFt:=Lib.hid hft
     clear hx hft hlt
     by_cases hxt:x=t
     ·have hbe:((x:Int) == (t:Int))=true:=by simp[hxt]
      have HPc:Hid (f x=[x,d]):=Lib.hid (by rw[←HF.out];unfold aftF;rw[if_pos hxt])
      clear hxt
      have HOa:=Lib.hid (HOq.out.alloc (.cells #[.int .i64 (x:Int)] 3))
      have HEa:=Lib.hid (HEq.out.alloc (.cells #[.int .i64 (x:Int)] 3))
      go_wp2_with (at_builtin;refine wpList_app_ints (R:=R) (B:=wr0.heap.size) rfl _ _ rfl HOa.out rfl ⟨wr.heap.size,0,none⟩ 1 1 [((x:Int):Int)] rfl ?k0 ?k1 ?k2 ?k3 ?k4 ?_)
      try (case k0=>first|rfl|simp)
      case k1=>first|(intro j hj;match j,hj with|0,_=>simp[Addr.add,nth])|rfl|simp[nth]
      case k2=>have:=HLt.out;first|omega|(simp at this ⊢;omega)
      case k3=>exact HEa.out.size
      case k4=>exact fun q hq=>HEa.out.inv.none_of_ge hq
      intro v5 w5 hok hgk hsk
      obtain⟨ak,ck,rfl,_⟩:=hok.ints.open
      obtain⟨lk,hlk⟩:∃ l,(toI (List.flatMap f (List.take j X)) ++ [(x:Int)]).length=l:=⟨_,rfl⟩
      rw[hlk] at hok hsk
      try rw[hlk]
      have HEk:=Lib.hid (HEa.out.app HOa.out (Nat.le_refl _) hgk)
      have HOk:=Lib.hid hok
      clear hok hgk hsk hlk
      have HOb:=Lib.hid (HOk.out.alloc (.cells #[.int .i64 (d:Int)] 3))
      have HEb:=Lib.hid (HEk.out.alloc (.cells #[.int .i64 (d:Int)] 3))
      go_wp2_with (at_builtin;refine wpList_app_ints (R:=R) (B:=wr0.heap.size) rfl _ _ rfl HOb.out rfl ⟨w5.heap.size,0,none⟩ 1 1 [((d:Int):Int)] rfl ?m0 ?m1 ?m2 ?m3 ?m4 ?_)
      try (case m0=>first|rfl|simp)
      case m1=>first|(intro j hj;match j,hj with|0,_=>simp[Addr.add,nth])|rfl|simp[nth]
      case m2=>have:=HLt.out;first|omega|(simp at this ⊢;omega)
      case m3=>exact HEb.out.size
      case m4=>exact fun q hq=>HEb.out.inv.none_of_ge hq
      intro v6 w6 hom hgm hsm
      obtain⟨am,cm,rfl,_⟩:=hom.ints.open
      obtain⟨lm,hlm⟩:∃ l,(toI (List.flatMap f (List.take j X)) ++ [(x:Int),(d:Int)]).length=l:=⟨_,rfl⟩
      rw[hlm] at hom hsm
      try rw[hlm]
      have HEm:=Lib.hid (HEb.out.app HOb.out (Nat.le_refl _) hgm)
      have HOm:=Lib.hid hom
      clear hom hgm hsm hlm
      go_wp2_with fail
      go_roundg (L-(j+1))
      case measure=>omega
      case rel=>exact⟨j+1,am,lm,cm,by omega,by omega,by go_num,rfl,HEm.out,by
       have h:=HOm.out
       rw[HFt.out,HPc.out]
       have e:toI (List.flatMap f (List.take j X) ++ [x,d])=toI (List.flatMap f (List.take j X)) ++ [(x:Int),(d:Int)]:=by simp[toI]
       rw[e]
       exact h⟩
     ·have hbe:((x:Int) == (t:Int))=false:=by simp;omega
      have HPc:Hid (f x=[x]):=Lib.hid (by rw[←HF.out];unfold aftF;rw[if_neg hxt])
      clear hxt
      have HOa:=Lib.hid (HOq.out.alloc (.cells #[.int .i64 (x:Int)] 3))
      have HEa:=Lib.hid (HEq.out.alloc (.cells #[.int .i64 (x:Int)] 3))
      go_wp2_with (at_builtin;refine wpList_app_ints (R:=R) (B:=wr0.heap.size) rfl _ _ rfl HOa.out rfl ⟨wr.heap.size,0,none⟩ 1 1 [((x:Int):Int)] rfl ?p0 ?p1 ?p2 ?p3 ?p4 ?_)
      try (case p0=>first|rfl|simp)
      case p1=>first|(intro j hj;match j,hj with|0,_=>simp[Addr.add,nth])|rfl|simp[nth]
      case p2=>have:=HLt.out;first|omega|(simp at this ⊢;omega)
      case p3=>exact HEa.out.size
      case p4=>exact fun q hq=>HEa.out.inv.none_of_ge hq
      intro v5 w5 hop hgp hsp
      obtain⟨ap,cp,rfl,_⟩:=hop.ints.open
      obtain⟨lp,hlp⟩:∃ l,(toI (List.flatMap f (List.take j X)) ++ [(x:Int)]).length=l:=⟨_,rfl⟩
      rw[hlp] at hop hsp
      try rw[hlp]
      have HEp:=Lib.hid (HEa.out.app HOa.out (Nat.le_refl _) hgp)
      have HOp:=Lib.hid hop
      clear hop hgp hsp hlp
      go_wp2_with fail
      go_roundg (L-(j+1))
      case measure=>omega
      case rel=>exact⟨j+1,ap,lp,cp,by omega,by omega,by go_num,rfl,HEp.out,by
       have h:=HOp.out
       rw[HFt.out,HPc.out]
       have e:toI (List.flatMap f (List.take j X) ++ [x])=toI (List.flatMap f (List.take j X)) ++ [(x:Int)]:=by simp[toI]
       rw[e]
       exact h⟩
    ·obtain rfl:j=L:=by omega
     have hall:X.take j=X:=by rw[←HLe.out,List.take_length]
     obtain⟨Y,hY⟩:∃ Y,X.flatMap f=Y:=⟨_,rfl⟩
     have hoq:=HOq.out
     rw[hall,hY] at hoq
     have hYl:l10=Y.length:=by
      have:=hoq.ints.length_eq
      rw[toI_length] at this
      exact this
     obtain⟨NY,hNY⟩:∃ N,Y.length=N:=⟨_,rfl⟩
     rw[hNY] at hYl
     subst hYl
     have HOy:=Lib.hid hoq
     have hov8:=HOv7.out.ev HEq.out
     have hrw8:=HRw7.out.ev HEq.out
     have hrow:=rowOk_new hoq hNY HOv7.out
     have hE8:=(Ev.refl HEq.out.inv).alloc (.cells #[.slice a10 l10 c10] 25)
     have HOv8:=Lib.hid (hov8.alloc (.cells #[.slice a10 l10 c10] 25))
     have HRw8:=Lib.hid (hrw8.ev hE8)
     have HRo8:=Lib.hid (hrow.ev hE8)
     have HE8:=Lib.hid ((HE.out.trans HEq.out).alloc (.cells #[.slice a10 l10 c10] 25))
     have hot:=outL_take (f:=f) (xss:=xss) (i:=i) (by rw[HN.out];exact hi)
     rw[HXe.out,hY] at hot
     have HOt:=Lib.hid hot
     clear hall hY hoq hNY hov8 hrw8 hrow hE8 hot
     go_wp2_with (at_builtin;refine wpList_app_row 59 25 1 24 nilS Try.underlying59 islice_info rfl (by decide) (by decide) rfl _ _ rfl HOv8.out rfl ⟨wr.heap.size,0,none⟩ 1 1 [.slice a10 l10 c10] rfl ?z0 ?z1 ?z2 ?z3 ?z4 ?z5 ?_)
     try (case z0=>first|rfl|simp)
     case z1=>exact one_cell _ _
     case z2=>exact one_one _ _ _
     case z3=>omega
     case z4=>exact HE8.out.size
     case z5=>exact fun q hq=>HE8.out.inv.none_of_ge hq
     intro v9 w9 ho9 hg9 hs9
     have hra9:=rows_next (xss:=outL f (xss.take i)) HL7.out.symm HRw8.out HRo8.out ho9 hg9 (fun q hq=>(hs9 q hq).imp id (fun h=>by first|exact h|simpa using h))
     rw[←HOt.out] at hra9
     have HRa9:=Lib.hid hra9
     have HE9:=Lib.hid (HE8.out.appV HOv8.out (Nat.le_refl _) hg9)
     clear hra9 ho9 hg9 hs9 HE8 HOv8 HRw8 HRo8
     go_wp2_with fail
     go_roundg (n-(i+1))
     case measure=>omega
     case rel=>exact⟨i+1,by omega,by omega,by go_num,HE9.out,HRa9.out⟩
  ·obtain rfl:i=n:=by omega
   have hall:xss.take i=xss:=by rw[←HN.out,List.take_length]
   rw[hall] at hra
   obtain⟨a7,c7,vs7,rfl,hov7,hrw7⟩:=hra
   have HH:=Lib.hid (show Ev R w R wr∧_∧_ from⟨hev,hov7,hrw7⟩)
   clear hall hov7 hrw7 hev
   go_wp2_with fail
   go_ret
   obtain⟨hev,hov7,hrw7⟩:=HH.out
   exact⟨a7,c7,vs7,rfl,hev,hov7,hrw7⟩
set_option maxRecDepth 100000 in
set_option maxHeartbeats 4000000 in
theorem without_any (R:Reg) (w:World) (hI:Inv R w) (B:Nat) (v:Value) (xss:List (List Nat)) (hv:RowsAt R B w v xss) (hsm:RowsSm xss) (d:Nat) (hd:d≤1000000):
  Calls Try.prog 38 #[v,.int .i64 (d:Int)] w (RetLL R w (outL (witF d) xss)):=by
 obtain⟨a,c,vs,rfl,hov,hrw⟩:=hv
 obtain⟨hl,hrs⟩:=hsm
 obtain⟨n,hn⟩:∃ n,xss.length=n:=⟨_,rfl⟩
 have HN:=Lib.hid hn
 have HI:=Lib.hid hI
 have HRs:=Lib.hid hrs
 obtain⟨f,hf⟩:∃ f,(witF d)=f:=⟨_,rfl⟩
 have hf2:∀ x,(f x).length≤2:=fun x=>by rw[←hf];unfold witF;split <;> simp
 have HF:=Lib.hid hf
 have HF2:=Lib.hid hf2
 rw[hf]
 rw[hn] at hov hrw hl hrs ⊢
 have HOv:=Lib.hid hov
 have HRw:=Lib.hid hrw
 clear hI hov hrw hn hrs hf hf2
 go_enter Try.func38,Try.ntmps38
 go_wp2_with fail
 go_loopg [5,13] n (fun g v7 v15 wr=>∃ (i:Nat),i≤n∧n-i≤g∧v15=.int .i64 (i:Int)∧Ev R w R wr∧RowsAt R w.heap.size wr v7 (outL f (xss.take i)))
 case atStart=>exact⟨0,Nat.zero_le _,by omega,rfl,Ev.refl HI.out,none,0,[],rfl,OwnV.nil _ _ _ _ _,RowsLL.nil _ _ _⟩
 case round=>
  obtain⟨i,hin,hg,rfl,hev,hra⟩:=hrel
  have HE:=Lib.hid hev
  by_cases hi:i<n
  ·obtain⟨a7,c7,vs7,rfl,hov7,hrw7⟩:=hra
   have hl7:(outL f (xss.take i)).length=i:=by unfold outL;rw[List.length_map,List.length_take,HN.out];omega
   rw[hl7] at hov7 hrw7 ⊢
   have HOv7:=Lib.hid hov7
   have HRw7:=Lib.hid hrw7
   have HL7:=Lib.hid hl7
   obtain⟨u,hu,ai,ci,hue,hfr,_⟩:=(HRw.out.ev hev).row i (by rw[HN.out];exact hi)
   have hui:i<vs.length:=by rw[HRw.out.len,HN.out];exact hi
   obtain⟨g0,rfl,_,_,hc0,_⟩:=(HOv.out.ev hev).headAt (i:=i) hui
   rw[hu] at hc0
   obtain⟨X,hX⟩:∃ X,xss.getD i []=X:=⟨_,rfl⟩
   rw[hX] at hue hfr
   subst hue
   have hxs:=HRs.out i (by rw[HN.out];exact hi)
   rw[hX] at hxs
   obtain⟨L,hL⟩:∃ L,X.length=L:=⟨_,rfl⟩
   rw[hL] at hfr hxs hc0
   have HLe:=Lib.hid hL
   have HXe:=Lib.hid hX
   have HFr:=Lib.hid hfr
   have HXs:=Lib.hid hxs
   have hir:(i:Int)<(n:Int):=by omega
   have hLb:L≤100000:=HXs.out.1
   obtain⟨wr0,hwr0⟩:∃ x,x=wr:=⟨_,rfl⟩
   subst hwr0
   clear hu hov7 hrw7 hl7 hev hL hX hfr hxs
   go_wp2_with fail
   go_loopg [8,19] L (fun g v10 v21 wq=>∃ (j:Nat) (a10:Option Addr) (l10 c10:Nat),j≤L∧L-j≤g∧v21=.int .i64 (j:Int)∧v10=.slice a10 l10 c10∧Ev R wr0 R wq∧OwnI R wr0.heap.size 3 wq (.slice a10 l10 c10) (toI ((X.take j).flatMap f)))
   case atStart=>exact⟨0,none,0,0,Nat.zero_le _,by omega,rfl,rfl,Ev.refl HE.out.inv,OwnI.nil _ _ _ _⟩
   case round=>
    clear hc0
    obtain⟨j,a10,l10,c10,hjl,hgj,rfl,rfl,hevq,hoq⟩:=hrel
    have HEq:=Lib.hid hevq
    have HOq:=Lib.hid hoq
    clear hevq hoq
    by_cases hj:j<L
    ·obtain⟨bS,oS,rfl,hcx⟩:=(HFr.out.ev HEq.out).at (i:=j) (by rw[HLe.out];exact hj)
     obtain⟨x,hx⟩:∃ x,at' X j=x:=⟨_,rfl⟩
     rw[hx] at hcx
     have hjr:(j:Int)<(L:Int):=by omega
     have hft:=flat_take (f:=f) (X:=X) (j:=j) (by rw[HLe.out];exact hj)
     rw[hx] at hft
     have hlt:(toI ((X.take j).flatMap f)).length≤200000:=by
      have h1:=flat_len HF2.out (X.take j)
      have h2:=HXs.out.1
      rw[toI_length]
      rw[List.length_take] at h1
      omega
     have HLt:=Lib.hid hlt
     have HFt:=Lib.hid hft
     clear hx hft hlt
     by_cases hxt:x=d
     ·have hbe:((x:Int) != (d:Int))=false:=by simp[hxt]
      have HPc:Hid (f x=[]):=Lib.hid (by rw[←HF.out];unfold witF;rw[if_pos hxt])
      clear hxt
      go_wp2_with fail
      go_roundg (L-(j+1))
      case measure=>omega
      case rel=>exact⟨j+1,a10,l10,c10,by omega,by omega,by go_num,rfl,HEq.out,by rw[HFt.out,HPc.out,List.append_nil];exact HOq.out⟩
     ·have hbe:((x:Int) != (d:Int))=true:=by simp;omega
      have HPc:Hid (f x=[x]):=Lib.hid (by rw[←HF.out];unfold witF;rw[if_neg hxt])
      clear hxt
      have HOa:=Lib.hid (HOq.out.alloc (.cells #[.int .i64 (x:Int)] 3))
      have HEa:=Lib.hid (HEq.out.alloc (.cells #[.int .i64 (x:Int)] 3))
      go_wp2_with (at_builtin;refine wpList_app_ints (R:=R) (B:=wr0.heap.size) rfl _ _ rfl HOa.out rfl ⟨wr.heap.size,0,none⟩ 1 1 [((x:Int):Int)] rfl ?p0 ?p1 ?p2 ?p3 ?p4 ?_)
      try (case p0=>first|rfl|simp)
      case p1=>first|(intro j hj;match j,hj with|0,_=>simp[Addr.add,nth])|rfl|simp[nth]
      case p2=>have:=HLt.out;first|omega|(simp at this ⊢;omega)
      case p3=>exact HEa.out.size
      case p4=>exact fun q hq=>HEa.out.inv.none_of_ge hq
      intro v5 w5 hop hgp hsp
      obtain⟨ap,cp,rfl,_⟩:=hop.ints.open
      obtain⟨lp,hlp⟩:∃ l,(toI (List.flatMap f (List.take j X)) ++ [(x:Int)]).length=l:=⟨_,rfl⟩
      rw[hlp] at hop hsp
      try rw[hlp]
      have HEp:=Lib.hid (HEa.out.app HOa.out (Nat.le_refl _) hgp)
      have HOp:=Lib.hid hop
      clear hop hgp hsp hlp
      go_wp2_with fail
      go_roundg (L-(j+1))
      case measure=>omega
      case rel=>exact⟨j+1,ap,lp,cp,by omega,by omega,by go_num,rfl,HEp.out,by
       have h:=HOp.out
       rw[HFt.out,HPc.out]
       have e:toI (List.flatMap f (List.take j X) ++ [x])=toI (List.flatMap f (List.take j X)) ++ [(x:Int)]:=by simp[toI]
       rw[e]
       exact h⟩
    ·obtain rfl:j=L:=by omega
     have hall:X.take j=X:=by rw[←HLe.out,List.take_length]
     obtain⟨Y,hY⟩:∃ Y,X.flatMap f=Y:=⟨_,rfl⟩
     have hoq:=HOq.out
     rw[hall,hY] at hoq
     have hYl:l10=Y.length:=by
      have:=hoq.ints.length_eq
      rw[toI_length] at this
      exact this
     obtain⟨NY,hNY⟩:∃ N,Y.length=N:=⟨_,rfl⟩
     rw[hNY] at hYl
     subst hYl
     have HOy:=Lib.hid hoq
     have hov8:=HOv7.out.ev HEq.out
     have hrw8:=HRw7.out.ev HEq.out
     have hrow:=rowOk_new hoq hNY HOv7.out
     have hE8:=(Ev.refl HEq.out.inv).alloc (.cells #[.slice a10 l10 c10] 25)
     have HOv8:=Lib.hid (hov8.alloc (.cells #[.slice a10 l10 c10] 25))
     have HRw8:=Lib.hid (hrw8.ev hE8)
     have HRo8:=Lib.hid (hrow.ev hE8)
     have HE8:=Lib.hid ((HE.out.trans HEq.out).alloc (.cells #[.slice a10 l10 c10] 25))
     have hot:=outL_take (f:=f) (xss:=xss) (i:=i) (by rw[HN.out];exact hi)
     rw[HXe.out,hY] at hot
     have HOt:=Lib.hid hot
     clear hall hY hoq hNY hov8 hrw8 hrow hE8 hot
     go_wp2_with (at_builtin;refine wpList_app_row 59 25 1 24 nilS Try.underlying59 islice_info rfl (by decide) (by decide) rfl _ _ rfl HOv8.out rfl ⟨wr.heap.size,0,none⟩ 1 1 [.slice a10 l10 c10] rfl ?z0 ?z1 ?z2 ?z3 ?z4 ?z5 ?_)
     try (case z0=>first|rfl|simp)
     case z1=>exact one_cell _ _
     case z2=>exact one_one _ _ _
     case z3=>omega
     case z4=>exact HE8.out.size
     case z5=>exact fun q hq=>HE8.out.inv.none_of_ge hq
     intro v9 w9 ho9 hg9 hs9
     have hra9:=rows_next (xss:=outL f (xss.take i)) HL7.out.symm HRw8.out HRo8.out ho9 hg9 (fun q hq=>(hs9 q hq).imp id (fun h=>by first|exact h|simpa using h))
     rw[←HOt.out] at hra9
     have HRa9:=Lib.hid hra9
     have HE9:=Lib.hid (HE8.out.appV HOv8.out (Nat.le_refl _) hg9)
     clear hra9 ho9 hg9 hs9 HE8 HOv8 HRw8 HRo8
     go_wp2_with fail
     go_roundg (n-(i+1))
     case measure=>omega
     case rel=>exact⟨i+1,by omega,by omega,by go_num,HE9.out,HRa9.out⟩
  ·obtain rfl:i=n:=by omega
   have hall:xss.take i=xss:=by rw[←HN.out,List.take_length]
   rw[hall] at hra
   obtain⟨a7,c7,vs7,rfl,hov7,hrw7⟩:=hra
   have HH:=Lib.hid (show Ev R w R wr∧_∧_ from⟨hev,hov7,hrw7⟩)
   clear hall hov7 hrw7 hev
   go_wp2_with fail
   go_ret
   obtain⟨hev,hov7,hrw7⟩:=HH.out
   exact⟨a7,c7,vs7,rfl,hev,hov7,hrw7⟩
end
section
open Go.RowKit
set_option linter.unusedVariables false
end
section
open Go.RowKit
set_option linter.unusedVariables false
end
section
open Go.RowKit
set_option linter.unusedVariables false
end
section
open Go.RowKit
set_option linter.unusedVariables false
end
section
set_option linter.unusedVariables false
end
end Go.Proofs.Ytklkgicjfnbndaa
