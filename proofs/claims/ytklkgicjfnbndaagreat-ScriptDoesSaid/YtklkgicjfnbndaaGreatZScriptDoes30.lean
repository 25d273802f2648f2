/- parquetryref10.Cut, Shrink. -/
import Derived.Test.YtklkgicjfnbndaaGreatZScriptDoes29
import Derived.Deep.RegionHeld3
import Derived.Deep.RegionLaw
import Derived.Test.YtklkgicjfnbndaaGreatZScriptDoes15
import Derived.Test.YtklkgicjfnbndaaGreatZScriptDoes24
import Derived.Test.YtklkgicjfnbndaaGreatZScriptDoes26
namespace Go.Proofs.YtklkgicjfnbndaaGreat
section
open Go.RowKit
set_option linter.unusedVariables false
theorem step_app_row {ops:Array Oper} {o:Oper} {a:Act} {w:World} {K:Act→World→Prop} {Q:Exit→Act→World→Prop} {E0:Prop} (t E sz bytes:Nat) (z:Value) (ht:Tryz.prog.underlying t=some (.slice E)) (hin:(Tryz.prog.info? E).map (fun i=>(i.zero,i.size,i.bytes))=some (some z,sz,bytes)) (hzs:z.cells.size=sz) (hsz:0<sz) (hby:bytes≤4096)
  (hgd:o.guard=none) (s x:Operand)
  (ho:o.op=.call { callee:=.builtin .append,args:=#[s,x],argTypes:=#[t,t] })
  {R:Reg} {B:Nat} {v:Value} {n:Nat} {xs:List Value} (hown:OwnV R B E sz w v n xs) (hs:a.eval s=v) (ad:Addr) (m c:Nat) (ys:List Value) (hm:ys.length=m*sz) (hx:a.eval x=.slice (some ad) m c)
  (hc:∀ j u,ys[j]?=some u→w.cell? (ad.add j)=some u) (h1:∀ u∈ys,u.oneCell'=true) (hn:n+m≤8388608) (hB:B≤w.heap.size) (hR:∀ k,w.heap.size≤k→R k=none)
  (h:∀ v' w',OwnV R B E sz w' v' (n+m) (xs ++ ys)→w.grownBy w' v.ownBlock→(∀ k,v'.ownBlock=some k→v.ownBlock=some k∨w.heap.size≤k)→K (a.put o.dst v') w'):
  if Region.wanted o (yielded ops a.tmps)=true then Oper.wp Tryz.prog o a w K Q else E0:=by
 have hw:Region.wanted o (yielded ops a.tmps)=true:=by simp[Region.wanted,hgd]
 rw[if_pos hw]
 obtain⟨i0,hi,hz0,hz1,hz2⟩:=info_parts hin
 obtain⟨v',w',hr,h2,h3,h4⟩:=run_append_where (P:=Tryz.prog) w B t o.type E i0 z sz bytes ht hi hz0 hz1 hz2 hzs hsz v n _ hown.1 ad m c ys hm hc h1 (by unfold maxLen;omega)
  (Nat.le_trans (Nat.mul_le_mul hn hby) (by decide)) hB
 unfold Oper.wp execOp
 simp only[ho,resolve,invoke,builtin,Sem.run_bind,Sem.run_pure,Result.andThen_ok,List.map_toArray,List.map_cons,List.map_nil,hs,hx,hr]
 refine h v' w' ⟨h2,?_⟩ h3 h4
 intro k hk
 rcases h4 k hk with e|e
 ·exact hown.2 k e
 ·exact hR k e
theorem one_cell (w:World) (u:Value):∀ j x,[u][j]?=some x→(w.alloc (.cells #[u] 25)).cell? ((⟨w.heap.size,0,none⟩:Addr).add j)=some x:=by
 intro j x hj
 match j,hj with
 | 0,hj=>
  simp only[List.getElem?_cons_zero,Option.some.injEq] at hj
  subst hj
  simp[Addr.add]
theorem one_at {w:World} {b:Nat} {u:Value} (h:w.cell? ⟨b,0,none⟩=some u):∀ j x,[u][j]?=some x→w.cell? ((⟨b,0,none⟩:Addr).add j)=some x:=by
 intro j x hj
 match j,hj with
 | 0,hj=>
  simp only[List.getElem?_cons_zero,Option.some.injEq] at hj
  subst hj
  simpa [Addr.add] using h
theorem one_one (a:Option Addr) (n c:Nat):∀ u∈[Value.slice a n c],u.oneCell'=true:=by
 intro u hu
 simp only[List.mem_singleton] at hu
 subst hu
 rfl
theorem OwnI.capLe {R:Reg} {B:Nat} {E:TypeId} {w:World} {a:Option Addr} {n c:Nat} {xs:List Int} (h:OwnI R B E w (.slice a n c) xs) (hn:xs.length=n):n≤c:=by
 subst hn
 rcases h.1.2 with ⟨e1,e2⟩|⟨g,cap,cur,e,hbg,hg,hnc,hcm,hcs,htake⟩
 ·simp at e1;omega
 ·cases e;exact hnc
theorem run_app_nil (ty:TypeId) (w:World) (a:Option Addr) (n c:Nat) (x:Option Addr) (c':Nat) (hc:n≤c):
  (Builtin.append_ #[25,25] ty #[.slice a n c,.slice x 0 c']).run Tryz.prog w=.ok (.slice a n c) w:=by
 cases a <;> cases x <;> simp[Builtin.append_,go_sem,hc,Builtin.lenOf,Builtin.firstCells]
theorem step_app_nil {ops:Array Oper} {o:Oper} {a:Act} {w:World} {K:Act→World→Prop} {Q:Exit→Act→World→Prop} {E0:Prop}
  (hgd:o.guard=none) (s x:Operand)
  (ho:o.op=.call { callee:=.builtin .append,args:=#[s,x],argTypes:=#[25,25] })
  {a1:Option Addr} {n c:Nat} {a2:Option Addr} {c2:Nat} (hs:a.eval s=.slice a1 n c) (hx:a.eval x=.slice a2 0 c2) (hc:n≤c)
  (h:K (a.put o.dst (.slice a1 n c)) w):
  if Region.wanted o (yielded ops a.tmps)=true then Oper.wp Tryz.prog o a w K Q else E0:=by
 have hw:Region.wanted o (yielded ops a.tmps)=true:=by simp[Region.wanted,hgd]
 rw[if_pos hw]
 have hr:=run_app_nil o.type w a1 n c a2 c2 hc
 unfold Oper.wp execOp
 simp only[ho,resolve,invoke,builtin,Sem.run_bind,Sem.run_pure,Result.andThen_ok,List.map_toArray,List.map_cons,List.map_nil,hs,hx,hr]
 exact h
theorem own_news {R:Reg} {B:Nat} {w:World} {g n c:Nat} {xs:List Int} (h:OwnI R B 3 w (.slice (some ⟨g,0,none⟩) n c) xs) (hn:xs.length=n):∀ j u,(xs.map (Value.int .i64))[j]?=some u→w.cell? ((⟨g,0,none⟩:Addr).add j)=some u:=by
 intro j u hj
 rw[List.getElem?_map] at hj
 have hjn:j<xs.length:=by
  rcases Nat.lt_or_ge j xs.length with h1|h1
  ·exact h1
  ·rw[List.getElem?_eq_none h1] at hj;cases hj
 obtain⟨_,e,_,_,hc,_⟩:=h.headAt hn (by rw[←hn];exact hjn)
 cases e
 rw[List.getElem?_eq_getElem hjn] at hj
 cases hj
 have e2:nth xs j=xs[j]:=by simp[nth,hjn]
 rw[e2] at hc
 by_cases h0:j=0
 ·subst h0;simpa [Addr.add] using hc
 ·simpa [Addr.add,h0] using hc
theorem news_one (xs:List Int):∀ u∈xs.map (Value.int .i64),u.oneCell'=true:=by
 intro u hu
 obtain⟨x,_,rfl⟩:=List.mem_map.1 hu
 rfl
def RowsAt (R:Reg) (B:Nat) (w:World) (v:Value) (xss:List (List Nat)):Prop:=
 ∃ a c vs,v=.slice a xss.length c∧OwnV R B 25 1 w (.slice a xss.length c) xss.length vs∧RowsLL R w (fun k=>(Value.slice a xss.length c).ownBlock=some k) vs xss
theorem rows_next {R:Reg} {B:Nat} {w w':World} {a:Option Addr} {n c:Nat} {v' u:Value} {vs:List Value} {xss:List (List Nat)} {X:List Nat} (hn:n=xss.length) (hrw:RowsLL R w (fun k=>(Value.slice a n c).ownBlock=some k) vs xss) (hrow:RowOk R w (fun k=>(Value.slice a n c).ownBlock=some k) u X)
  (ho:OwnV R B 25 1 w' v' (n+1) (vs ++ [u])) (hg:w.grownBy w' (Value.slice a n c).ownBlock) (hs:∀ k,v'.ownBlock=some k→(Value.slice a n c).ownBlock=some k∨w.heap.size≤k):RowsAt R B w' v' (xss ++ [X]):=by
 obtain⟨a8,c8,rfl,_⟩:=ho.open
 have e:(xss ++ [X]).length=n+1:=by simp[hn]
 have h7:=(hrw.app hrow).re (X':=fun q=>(Value.slice a n c).ownBlock=some q∨(Value.slice a8 (n+1) c8).ownBlock=some q) fun q hq hx hx'=>by
  rcases hx' with h1|h1
  ·exact hx h1
  ·rcases hs q h1 with h2|h2
   ·exact hx h2
   ·omega
 have h8:=(h7.kept hg fun q hq=>Or.inl hq).re (X':=fun q=>(Value.slice a8 (n+1) c8).ownBlock=some q) fun q _ hx h'=>hx (Or.inr h')
 exact⟨a8,c8,vs ++ [u],by rw[e],by rw[e];exact ho,by rw[e];exact h8⟩
theorem ints_app {R:Reg} {B:Nat} {w:World} {v:Value} {F1 F0 J:List Nat} {N1 N0:Nat} (h1:F1.length=N1) (h0:F0.length=N0) (hJ:F1 ++ F0=J) (ho:OwnV R B 3 1 w v (N1+N0) ((toI F1).map (Value.int .i64) ++ (toI F0).map (Value.int .i64))):OwnI R B 3 w v (toI J):=by
 subst hJ h1 h0
 unfold OwnI
 have e:toI (F1 ++ F0)=toI F1 ++ toI F0:=by simp[toI]
 rw[toI_length,List.length_append,e,List.map_append]
 exact ho
theorem sl_open {R:Reg} {B NJ:Nat} {wb w:World} {v:Value} {J:List Nat} (hN:J.length=NJ) (he:Ev R wb R w) (ho:OwnI R B 3 w v (toI J)):∃ a c,v=.slice a NJ c∧Ev R wb R w∧OwnI R B 3 w (.slice a NJ c) (toI J):=by
 obtain⟨a,c,rfl,_⟩:=ho.ints.open
 rw[toI_length,hN] at ho ⊢
 exact⟨a,c,rfl,he,ho⟩
theorem RowsAt.ev {R R':Reg} {B:Nat} {w w':World} {v:Value} {xss:List (List Nat)} (h:RowsAt R B w v xss) (he:Ev R w R' w'):RowsAt R' B w' v xss:=by
 obtain⟨a,c,vs,h1,h2,h3⟩:=h
 exact⟨a,c,vs,h1,h2.ev he,h3.ev he⟩
theorem from_len {s:List Nat} (d e:Nat):(fromL s d e).length≤s.length+1:=by
 have h1:=orbitL_length s d
 have h2:=List.length_filter_le (fun x=>!decide (x / 2=e)) (orbitL s d)
 unfold fromL
 omega
theorem rowOk_new {R:Reg} {w5 w6:World} {B n N c:Nat} {a:Option Addr} {v5:Value} {xs:List Value} {F:List Nat} (ho:OwnI R w5.heap.size 3 w6 (.slice a N c) (toI F)) (hN:F.length=N) (hO:OwnV R B 25 1 w5 v5 n xs):RowOk R w6 (fun k=>v5.ownBlock=some k) (.slice a N c) F:=by
 subst hN
 refine⟨a,c,rfl,ho.free,fun q hq=>⟨fun hx=>?_,(ho.lt q hq).2⟩⟩
 have h1:=(ho.lt q hq).1
 have h2:=(hO.lt q hx).2
 omega
theorem rowOk_old {R:Reg} {w4 w5:World} {B n N c:Nat} {a:Option Addr} {v5:Value} {xs:List Value} {F:List Nat} (ho:OwnI R B 3 w4 (.slice a N c) (toI F)) (hN:F.length=N) (he:Ev R w4 R w5) (hO:OwnV R w4.heap.size 25 1 w5 v5 n xs):RowOk R w5 (fun k=>v5.ownBlock=some k) (.slice a N c) F:=by
 subst hN
 refine⟨a,c,rfl,ho.free.ev he,fun q hq=>⟨fun hx=>?_,?_⟩⟩
 ·have h1:=(ho.lt q hq).2
  have h2:=(hO.lt q hx).1
  omega
 ·have h1:=(ho.lt q hq).2
  have h2:=he.size
  omega
def RowsIn (n e:Nat) (xss:List (List Nat)):Prop:=∀ v,v∈xss→(∀ x,x∈v→x<n∧¬ x / 2=e)∧v.length≤n+1
theorem RowsIn.app {n e:Nat} {xss yss:List (List Nat)} (h:RowsIn n e xss) (k:RowsIn n e yss):RowsIn n e (xss ++ yss):=fun v hv=>(List.mem_append.1 hv).elim (h v) (k v)
theorem rowsIn_from {s:List Nat} (hs:IsPerm s) {d e:Nat} (hd:d<s.length):RowsIn s.length e [fromL s d e]:=fun v hv=>by
 rw[List.mem_singleton.1 hv]
 exact⟨fun x hx=>⟨orbitL_lt hs hd x (mem_from.1 hx).1,(mem_from.1 hx).2⟩,from_len d e⟩
theorem rowsIn_others {s:List Nat} (hs:IsPerm s) {e:Nat}:RowsIn s.length e ((repsTo s e s.length).map fun d=>orbitL s d):=fun v hv=>by
 obtain⟨d,hd,rfl⟩:=List.mem_map.1 hv
 exact⟨fun x hx=>⟨orbitL_lt hs (mem_reps.1 hd).1 x hx,rep_own hs hd x hx⟩,orbitL_length s d⟩
theorem reps_len (s:List Nat) (e n:Nat):(repsTo s e n).length≤n:=by
 unfold repsTo
 have:=List.length_filter_le (repB s e) (List.range n)
 rwa [List.length_range] at this
set_option maxRecDepth 100000 in
set_option maxHeartbeats 2000000 in
theorem r10cut_any (R:Reg) (w:World) (hI:Inv R w) (v:Value) (s:List Nat) (root lone:Int) (hv:FreeI R w v (toI s)) (hS:IsPerm s) (hn:s.length≤900000) (e:Nat) (he:2*e+2≤s.length) (hr:0≤root∧root<s.length) (hl:0≤lone∧lone≤65536):
  Calls Tryz.prog 79 #[refV v root lone,.int .i64 (e:Int)] w (RetMap R w (doneL s e) (rootL s e root.toNat) (lone+cutLone s e)):=by
 obtain⟨a0,cap0,rfl,hv0⟩:=hv.open
 rw[toI_length] at hv hv0 ⊢
 obtain⟨n,hnn⟩:∃ n,s.length=n:=⟨_,rfl⟩
 obtain⟨A,hA⟩:∃ A,((repsTo s e s.length).map fun d=>orbitL s d)=A:=⟨_,rfl⟩
 obtain⟨F0,hF0⟩:∃ F,fromL s (2*e) e=F:=⟨_,rfl⟩
 obtain⟨F1,hF1⟩:∃ F,fromL s (2*e+1) e=F:=⟨_,rfl⟩
 have HOth:=Lib.hid (fun w' (hee:Ev R w R w')=>others_any R w' hee.inv _ s root lone (hv.ev hee) hS (by omega) e he)
 have HFr0:=Lib.hid (fun w' (hee:Ev R w R w')=>r10from_any R w' hee.inv _ s root lone (hv.ev hee) hS (by omega) (2*e) e (by omega))
 have HFr1:=Lib.hid (fun w' (hee:Ev R w R w')=>r10from_any R w' hee.inv _ s root lone (hv.ev hee) hS (by omega) (2*e+1) e (by omega))
 have HNm:=Lib.hid (fun w' (hee:Ev R w R w')=>rnames_any R w' hee.inv _ s (hv.ev hee) hS (by omega))
 have HMd:=Lib.hid (fun w' (hee:Ev R w R w') B a c vs xss hO hW (hx:RowsIn s.length e xss) (hN:xss.length≤1000000)=>r10made_any R w' hee.inv _ s root lone (hv.ev hee) hS (by omega) (by omega) e he hr hl B a c vs xss hO hW (fun u hu=>(hx u hu).1) hN (fun u hu=>by have:=(hx u hu).2;omega))
 have hAi:=rowsIn_others hS (e:=e)
 have hAl:A.length≤n:=by rw[←hA,List.length_map,←hnn];exact reps_len s e _
 have hF0i:=rowsIn_from hS (d:=2*e) (e:=e) (by omega)
 have hF1i:=rowsIn_from hS (d:=2*e+1) (e:=e) (by omega)
 have hnl:=namesL_length s
 have HD:=Lib.hid (cutRows_done hS he)
 have HEm:=Lib.hid (cutRows_empty hS he)
 have HCr:=Lib.hid (show cutRows s e=A ++ ([F0] ++ if nth (namesL s) (2*e)=nth (namesL s) (2*e+1) then [] else [F1]) by unfold cutRows;rw[hA,hF0,hF1])
 obtain⟨D,hDD⟩:∃ D,doneL s e=D:=⟨_,rfl⟩
 obtain⟨rr,hrr⟩:∃ r,rootL s e root.toNat=r:=⟨_,rfl⟩
 obtain⟨lc,hlc⟩:∃ l,lone+cutLone s e=l:=⟨_,rfl⟩
 rw[hrr] at HMd
 rw[hDD] at HD
 rw[hDD,hrr,hlc]
 have HLc:=Lib.hid hlc
 clear hDD hrr hlc
 rw[hA] at HOth hAi
 rw[hF0] at HFr0 hF0i
 rw[hF1] at HFr1 hF1i
 rw[hnn] at HD HOth HFr0 HFr1 HNm HMd hAi hF0i hF1i hn he hnl ⊢
 obtain⟨NA,hNA⟩:∃ N,A.length=N:=⟨_,rfl⟩
 obtain⟨N0,hN0⟩:∃ N,F0.length=N:=⟨_,rfl⟩
 obtain⟨N1,hN1⟩:∃ N,F1.length=N:=⟨_,rfl⟩
 rw[hNA] at hAl
 have HNA:=Lib.hid hNA
 have HN0:=Lib.hid hN0
 have HN1:=Lib.hid hN1
 have HAi:=Lib.hid hAi
 have HF0i:=Lib.hid hF0i
 have HF1i:=Lib.hid hF1i
 have HNl:=Lib.hid hnl
 obtain⟨E0,hE0⟩:∃ x,2*e=x:=⟨_,rfl⟩
 obtain⟨E1,hE1⟩:∃ x,E0+1=x:=⟨_,rfl⟩
 have hw2:IntKind.i64.wrap (2*(e:Int))=(E0:Int):=by rw[show 2*(e:Int)=(E0:Int) by omega];exact IntWalk.i64_in _ (by omega)
 have hw3:IntKind.i64.wrap ((E0:Int)+1)=(E1:Int):=by rw[show (E0:Int)+1=(E1:Int) by omega];exact IntWalk.i64_in _ (by omega)
 rw[hE0] at HFr0 HFr1 HCr
 rw[hE1] at HFr1 HCr
 have hE0n:E0<n:=by omega
 have hE1n:E1<n:=by omega
 have HI:=Lib.hid hI
 unfold refV at HOth HFr0 HFr1 HMd
 unfold refV
 have he1:Ev R w R ((w.alloc (.cells #[.slice a0 n cap0,.int .i64 root,.int .i64 lone] 27)).alloc (.cells #[.slice none 0 0,.int .i64 0,.int .i64 0] 27)):=((Ev.refl hI).alloc _).alloc _
 have hb1:((w.alloc (.cells #[.slice a0 n cap0,.int .i64 root,.int .i64 lone] 27)).alloc (.cells #[.slice none 0 0,.int .i64 0,.int .i64 0] 27)).heap[w.heap.size]?=some (.cells #[.slice a0 n cap0,.int .i64 root,.int .i64 lone] 27 (0,0)):=by
  rw[Below.heap_alloc _ _ _ (by simp)]
  exact heap_alloc_new w _
 have hb2:((w.alloc (.cells #[.slice a0 n cap0,.int .i64 root,.int .i64 lone] 27)).alloc (.cells #[.slice none 0 0,.int .i64 0,.int .i64 0] 27)).heap[w.heap.size+1]?=some (.cells #[.slice none 0 0,.int .i64 0,.int .i64 0] 27 (0,0)):=by
  have:=heap_alloc_new (w.alloc (.cells #[.slice a0 n cap0,.int .i64 root,.int .i64 lone] 27)) (.cells #[.slice none 0 0,.int .i64 0,.int .i64 0] 27)
  simpa using this
 have hn1:R w.heap.size=none:=hI.none_of_ge (Nat.le_refl _)
 have hn2:R (w.heap.size+1)=none:=hI.none_of_ge (by omega)
 go_enter Tryz.func79,Tryz.ntmps79
 go_upto_region 1 with fail
 obtain⟨wb,hwb⟩:∃ wb,wb=(w.alloc (.cells #[.slice a0 n cap0,.int .i64 root,.int .i64 lone] 27)).alloc (.cells #[.slice none 0 0,.int .i64 0,.int .i64 0] 27):=⟨_,rfl⟩
 have hwz:wb.heap.size=w.heap.size+1+1:=by rw[hwb];simp
 rw[←hwb] at he1 hb1 hb2 ⊢
 have HB1:=Lib.hid (fun w' (h:Ev R wb R w')=>h.box3 hb1 hn1)
 have HB2:=Lib.hid (fun w' (h:Ev R wb R w')=>h.box3 hb2 hn2)
 have HEb:=Lib.hid he1
 have HZb:=Lib.hid hwz
 have HEd:=Lib.hid ((Ev.refl he1.inv).drew)
 obtain⟨x0,x1,x2,_⟩:=box_cells (HB1.out _ HEd.out).1
 clear hwb hb1 hb2 hn1 hn2 hI hv hv0 hS he1 hwz hnn hA hF0 hF1 hNA hN0 hN1 hE0 hE1 hAi hF0i hF1i hnl
 go_cut [5] (fun s5 wx=>Ev R wb R wx∧RowsAt R wb.heap.size wx s5 (A ++ [F0]))
 case first=>
  go_region_law (first
   |(refine step_app_row 134 25 1 24 nilS Tryz.underlying134 islice_info rfl (by decide) (by decide) rfl (.tmp 9) (.tmp 15) rfl (HO5.out.alloc (.cells #[.slice a7 N0 c7] 25)) ?h1 ⟨w6.heap.size,0,none⟩ 1 1 [.slice a7 N0 c7] rfl ?h2 ?h3 ?h4 ?h5 ?h6 ?h7 ?_;(case h1=>simp[Act.eval]);(case h2=>simp[Act.eval]);(case h3=>exact one_cell _ _);(case h4=>exact one_one _ _ _);(case h5=>omega);(case h6=>have:=HEd.out.size;simp at this ⊢;omega);(case h7=>exact fun q hq=>HEd.out.inv.none_of_ge (by simp at hq;omega));intro v8 w8 ho8 hg8 hs8;have HE8:=Lib.hid ((HEd.out.alloc (.cells #[.slice a7 N0 c7] 25)).appV (HO5.out.alloc (.cells #[.slice a7 N0 c7] 25)) (Nat.le_refl _) hg8);have HR8:=Lib.hid (rows_next HNA.out.symm (HR5.out.ev ((Ev.refl HEd.out.inv).alloc (.cells #[.slice a7 N0 c7] 25))) (HRo.out.ev ((Ev.refl HEd.out.inv).alloc (.cells #[.slice a7 N0 c7] 25))) ho8 hg8 hs8);clear ho8 hg8 hs8)
   |(go_simp;go_at_call 123;refine (HOth.out _ (HEb.out.trans HEd.out)).mono ?_;rintro z w5 ⟨a5,c5,vs5,rfl,he5,ho5,hr5⟩;rw[HNA.out] at ho5 hr5 ⊢;have HO5:=Lib.hid (ho5.mono HEd.out.size);have HR5:=Lib.hid hr5;have HEd:=Lib.hid (HEd.out.trans he5);clear he5 ho5 hr5;obtain⟨x0,x1,x2,_⟩:=box_cells (HB1.out _ HEd.out).1)
   |(go_simp;go_at_call 124;refine (HFr0.out _ (HEb.out.trans HEd.out)).mono ?_;rintro z w6 ⟨v6,rfl,he6,ho6⟩;obtain⟨a7,c7,rfl,_⟩:=ho6.ints.open;rw[toI_length,HN0.out] at ho6 ⊢;have HRo:=Lib.hid (rowOk_new ho6 HN0.out HO5.out);have HO5:=Lib.hid (HO5.out.ev he6);have HR5:=Lib.hid (HR5.out.ev he6);have HEd:=Lib.hid (HEd.out.trans he6);clear he6 ho6;obtain⟨x0,x1,x2,_⟩:=box_cells (HB1.out _ HEd.out).1))
  all_goals (go_wp2_with fail;go_meet)
  all_goals exact⟨HE8.out,HR8.out⟩
 case rest=>
  obtain⟨hev,a5,c5,vs5,rfl,ho5,hr5⟩:=hcut
  obtain⟨w3,hw3e⟩:∃ w3,w3=wc:=⟨_,rfl⟩
  subst hw3e
  obtain⟨NB,hNB⟩:∃ N,(A ++ [F0]).length=N:=⟨_,rfl⟩
  have hNBb:NB≤n+1:=by rw[←hNB,List.length_append,HNA.out,List.length_singleton];omega
  have HRi:Hid (RowsIn n e (A ++ [F0])):=Lib.hid (HAi.out.app HF0i.out)
  obtain⟨Y,hY⟩:∃ Y,A ++ [F0]=Y:=⟨_,rfl⟩
  rw[hNB] at ho5 hr5 ⊢
  rw[hY] at hr5 hNB HRi
  have HYe:=Lib.hid hY
  have HNB:=Lib.hid hNB
  have HE3:=Lib.hid hev
  have HO5:=Lib.hid ho5
  have HR5:=Lib.hid hr5
  clear hev ho5 hr5 hNB hY x0 x1 x2
  obtain⟨x0,x1,x2,_⟩:=box_cells (HB1.out _ HE3.out).1
  go_wp2_with fail
  refine (HNm.out _ (HEb.out.trans HE3.out)).mono ?_
  rintro z w4 ⟨v4,rfl,he4,ho4⟩
  obtain⟨a4,c4,rfl,_⟩:=ho4.ints.open
  rw[HNl.out] at ho4 ⊢
  obtain⟨g4,rfl,_,_,k0,_⟩:=ho4.headAt HNl.out hE0n
  obtain⟨_,e1,_,_,k1,_⟩:=ho4.headAt HNl.out hE1n
  cases e1
  have HE4:=Lib.hid (HE3.out.trans he4)
  have HO4:=Lib.hid (HO5.out.ev he4)
  have HR4:=Lib.hid (HR5.out.ev he4)
  clear he4 ho4 HO5 HR5 HE3 x0 x1 x2
  obtain⟨x0,x1,x2,_⟩:=box_cells (HB1.out _ HE4.out).1
  obtain⟨n0,hn0⟩:∃ x,nth (namesL s) E0=x:=⟨_,rfl⟩
  obtain⟨n1,hn1⟩:∃ x,nth (namesL s) E1=x:=⟨_,rfl⟩
  rw[hn0] at k0 HCr
  rw[hn1] at k1 HCr
  clear hn0 hn1
  go_wp2_with fail
  by_cases hnn:n0=n1
  ·have hb:(n0 != n1)=false:=by simp[hnn]
   have hC:=HCr.out
   rw[if_pos hnn,List.append_nil,HYe.out] at hC
   have HC:=Lib.hid hC
   clear hC hnn
   go_quiet (fail)
   obtain⟨w5,hw5⟩:∃ x,x=w4.drewN nq:=⟨_,rfl⟩
   rw[←hw5]
   have HE5:Hid (Ev R wb R w5):=Lib.hid (by rw[hw5];exact HE4.out.drewN nq)
   have hq5:Ev R w4 R w5:=by rw[hw5];exact (Ev.refl HE4.out.inv).drewN nq
   have HO5:=Lib.hid (HO4.out.ev hq5)
   have HR5:=Lib.hid (HR4.out.ev hq5)
   clear hw5 hq5 HO4 HR4 HE4 x0 x1 x2 k0 k1 hb
   obtain⟨x0,x1,x2,_⟩:=box_cells (HB1.out _ HE5.out).1
   have hM:=HMd.out w5 (HEb.out.trans HE5.out) _ _ _ _ Y (by rw[HNB.out];exact HO5.out) (by rw[HNB.out];exact HR5.out) HRi.out (by rw[HNB.out];omega)
   rw[HNB.out,←HC.out,HD.out,HEm.out,HLc.out] at hM
   have HM:=Lib.hid hM
   clear hM
   go_wp2_with fail
   refine HM.out.mono ?_
   rintro z w9 ⟨a9,c9,rfl,he9,ho9⟩
   obtain⟨LD,hLD⟩:∃ L,D.length=L:=⟨_,rfl⟩
   rw[hLD] at ho9 ⊢
   have HO9:=Lib.hid ho9
   have HE9:=Lib.hid (HE5.out.trans he9)
   have HLD:=Lib.hid hLD
   have hz9:=HE5.out.size
   clear ho9 he9 hLD
   unfold refV
   obtain⟨y0,y1,y2,yz⟩:=box_cells (HB2.out _ HE9.out).1
   go_wp2_with fail
   have hb3:=set3 (x:=.slice a9 LD c9) (y:=.int .i64 rr) (z:=.int .i64 lc) (HB2.out _ HE9.out).1
   obtain⟨u0,u1,u2,_⟩:=box_cells hb3
   have hn2:=(HB2.out _ HE9.out).2
   refine bodyPost_ret (v:=refV (.slice a9 LD c9) rr lc) ?_ rfl ⟨a9,c9,by rw[HLD.out],?_,?_⟩
   ·simp[results,Tryz.results79,go_sem,u0,u1,u2,refV]
   ·exact (((HEb.out.trans HE9.out).setCell (by simp) hn2 _).setCell (by simp) hn2 _).setCell (by simp) hn2 _
   ·have hne:∀ (o:Nat),(Value.slice a9 LD c9).ownBlock≠some (⟨w.heap.size+1,o,none⟩:Addr).block:=fun o e'=>by
     have h1:=(HO9.out.lt _ e').1
     have h2:=HZb.out
     have h3:(⟨w.heap.size+1,o,none⟩:Addr).block=w.heap.size+1:=rfl
     omega
    rw[HLD.out]
    exact (((HO9.out.mono (by have:=HZb.out;omega)).setCell (hne 0) _).setCell (hne 1) _).setCell (hne 2) _
  ·have hb:(n0 != n1)=true:=by simp[hnn]
   have hC:=HCr.out
   rw[if_neg hnn] at hC
   have HC:=Lib.hid (show cutRows s e=Y ++ [F1] by rw[hC,←HYe.out];simp)
   clear hC hnn
   go_quiet (fail)
   obtain⟨w5,hw5⟩:∃ x,x=w4.drewN nq:=⟨_,rfl⟩
   rw[←hw5]
   have HE5:Hid (Ev R wb R w5):=Lib.hid (by rw[hw5];exact HE4.out.drewN nq)
   have hq5:Ev R w4 R w5:=by rw[hw5];exact (Ev.refl HE4.out.inv).drewN nq
   have HO5:=Lib.hid (HO4.out.ev hq5)
   have HR5:=Lib.hid (HR4.out.ev hq5)
   clear hw5 hq5 HO4 HR4 HE4 x0 x1 x2 k0 k1 hb
   obtain⟨x0,x1,x2,_⟩:=box_cells (HB1.out _ HE5.out).1
   go_wp2_with fail
   refine (HFr1.out _ (HEb.out.trans HE5.out)).mono ?_
   rintro z w6 ⟨v6,rfl,he6,ho6⟩
   obtain⟨a7,c7,rfl,_⟩:=ho6.ints.open
   rw[toI_length,HN1.out] at ho6 ⊢
   have HRo:=Lib.hid (rowOk_new ho6 HN1.out HO5.out)
   have HO6:=Lib.hid (HO5.out.ev he6)
   have HR6:=Lib.hid (HR5.out.ev he6)
   have HE6:=Lib.hid (HE5.out.trans he6)
   clear he6 ho6 HO5 HR5 HE5 x0 x1 x2
   go_wp2_with (at_builtin;refine wpList_app_row 134 25 1 24 nilS Tryz.underlying134 islice_info rfl (by decide) (by decide) rfl _ _ rfl (HO6.out.alloc (.cells #[.slice a7 N1 c7] 25)) rfl ⟨w6.heap.size,0,none⟩ 1 1 [.slice a7 N1 c7] rfl ?h2 ?h3 ?h4 ?h5 ?h6 ?h7 ?_)
   case h2=>first|rfl|simp
   case h3=>exact one_cell _ _
   case h4=>exact one_one _ _ _
   case h5=>omega
   case h6=>have:=HE6.out.size;simp at this ⊢;omega
   case h7=>exact fun q hq=>HE6.out.inv.none_of_ge (by simp at hq;omega)
   intro v8 w8 ho8 hg8 hs8
   have HE8:=Lib.hid ((HE6.out.alloc (.cells #[.slice a7 N1 c7] 25)).appV (HO6.out.alloc (.cells #[.slice a7 N1 c7] 25)) (Nat.le_refl _) hg8)
   have hr8:=rows_next HNB.out.symm (HR6.out.ev ((Ev.refl HE6.out.inv).alloc (.cells #[.slice a7 N1 c7] 25))) (HRo.out.ev ((Ev.refl HE6.out.inv).alloc (.cells #[.slice a7 N1 c7] 25))) ho8 hg8 (fun k hk=>(hs8 k hk).imp id fun h=>by simpa using h)
   obtain⟨a8,c8,vs8,rfl,ho8,hr8⟩:=hr8
   have HRi2:Hid (RowsIn n e (Y ++ [F1])):=Lib.hid (HRi.out.app HF1i.out)
   obtain⟨Z,hZ⟩:∃ Z,Y ++ [F1]=Z:=⟨_,rfl⟩
   obtain⟨NC,hNC⟩:∃ N,(Y ++ [F1]).length=N:=⟨_,rfl⟩
   have hNCb:NC≤n+2:=by rw[←hNC,List.length_append,HNB.out,List.length_singleton];omega
   rw[hNC] at ho8 hr8 ⊢
   have hC:=HC.out
   rw[hZ] at hr8 hNC hC HRi2
   have hM:=HMd.out w8 (HEb.out.trans HE8.out) _ _ _ _ Z (by rw[hNC];exact ho8) (by rw[hNC];exact hr8) HRi2.out (by rw[hNC];omega)
   rw[hNC,←hC,HD.out,HEm.out,HLc.out] at hM
   have HM:=Lib.hid hM
   clear hM hC hZ hNC hr8 ho8 hg8 hs8 HO6 HR6 HRo HE6
   obtain⟨x0,x1,x2,_⟩:=box_cells (HB1.out _ HE8.out).1
   go_wp2_with fail
   refine HM.out.mono ?_
   rintro z w9 ⟨a9,c9,rfl,he9,ho9⟩
   obtain⟨LD,hLD⟩:∃ L,D.length=L:=⟨_,rfl⟩
   rw[hLD] at ho9 ⊢
   have HO9:=Lib.hid ho9
   have HE9:=Lib.hid (HE8.out.trans he9)
   have HLD:=Lib.hid hLD
   have hz9:=HE8.out.size
   clear ho9 he9 hLD
   unfold refV
   obtain⟨y0,y1,y2,yz⟩:=box_cells (HB2.out _ HE9.out).1
   go_wp2_with fail
   have hb3:=set3 (x:=.slice a9 LD c9) (y:=.int .i64 rr) (z:=.int .i64 lc) (HB2.out _ HE9.out).1
   obtain⟨u0,u1,u2,_⟩:=box_cells hb3
   have hn2:=(HB2.out _ HE9.out).2
   refine bodyPost_ret (v:=refV (.slice a9 LD c9) rr lc) ?_ rfl ⟨a9,c9,by rw[HLD.out],?_,?_⟩
   ·simp[results,Tryz.results79,go_sem,u0,u1,u2,refV]
   ·exact (((HEb.out.trans HE9.out).setCell (by simp) hn2 _).setCell (by simp) hn2 _).setCell (by simp) hn2 _
   ·have hne:∀ (o:Nat),(Value.slice a9 LD c9).ownBlock≠some (⟨w.heap.size+1,o,none⟩:Addr).block:=fun o e'=>by
     have h1:=(HO9.out.lt _ e').1
     have h2:=HZb.out
     have h3:(⟨w.heap.size+1,o,none⟩:Addr).block=w.heap.size+1:=rfl
     omega
    rw[HLD.out]
    exact (((HO9.out.mono (by have:=HZb.out;omega)).setCell (hne 0) _).setCell (hne 1) _).setCell (hne 2) _
set_option maxRecDepth 100000 in
set_option maxHeartbeats 2000000 in
theorem r10shrink_any (R:Reg) (w:World) (hI:Inv R w) (v:Value) (s:List Nat) (root lone:Int) (hv:FreeI R w v (toI s)) (hS:IsPerm s) (hn:s.length≤900000) (e:Nat) (he:2*e+2≤s.length) (hr:0≤root∧root<s.length) (hl:0≤lone∧lone≤65536) (hne:nth (namesL s) (2*e)≠nth (namesL s) (2*e+1)):
  Calls Tryz.prog 82 #[refV v root lone,.int .i64 (e:Int)] w (RetMap R w (doneL (exL s e) e) (rootL s e root.toNat) (lone+shrLone s e)):=by
 obtain⟨a0,cap0,rfl,hv0⟩:=hv.open
 rw[toI_length] at hv hv0 ⊢
 obtain⟨n,hnn⟩:∃ n,s.length=n:=⟨_,rfl⟩
 obtain⟨A,hA⟩:∃ A,((repsTo s e s.length).map fun d=>orbitL s d)=A:=⟨_,rfl⟩
 obtain⟨F0,hF0⟩:∃ F,fromL s (2*e) e=F:=⟨_,rfl⟩
 obtain⟨F1,hF1⟩:∃ F,fromL s (2*e+1) e=F:=⟨_,rfl⟩
 have HOth:=Lib.hid (fun w' (hee:Ev R w R w')=>others_any R w' hee.inv _ s root lone (hv.ev hee) hS (by omega) e he)
 have HFr0:=Lib.hid (fun w' (hee:Ev R w R w')=>r10from_any R w' hee.inv _ s root lone (hv.ev hee) hS (by omega) (2*e) e (by omega))
 have HFr1:=Lib.hid (fun w' (hee:Ev R w R w')=>r10from_any R w' hee.inv _ s root lone (hv.ev hee) hS (by omega) (2*e+1) e (by omega))
 have HNm:=Lib.hid (fun w' (hee:Ev R w R w')=>rnames_any R w' hee.inv _ s (hv.ev hee) hS (by omega))
 have HMd:=Lib.hid (fun w' (hee:Ev R w R w') B a c vs xss hO hW (hx:RowsIn s.length e xss) (hN:xss.length≤1000000)=>r10made_any R w' hee.inv _ s root lone (hv.ev hee) hS (by omega) (by omega) e he hr hl B a c vs xss hO hW (fun u hu=>(hx u hu).1) hN (fun u hu=>by have:=(hx u hu).2;omega))
 have hAi:=rowsIn_others hS (e:=e)
 have hAl:A.length≤n:=by rw[←hA,List.length_map,←hnn];exact reps_len s e _
 have hF0i:=rowsIn_from hS (d:=2*e) (e:=e) (by omega)
 have hF1i:=rowsIn_from hS (d:=2*e+1) (e:=e) (by omega)
 have hnl:=namesL_length s
 have HD:=Lib.hid (shrRows_done hS he hne)
 have HEm:=Lib.hid (shrRows_empty hS he)
 have HCr:=Lib.hid (show shrRows s e=A ++ [F1 ++ F0] by unfold shrRows;rw[hA,hF0,hF1])
 have hJl:(fromL s (2*e+1) e ++ fromL s (2*e) e).length≤s.length+1:=by
  rw[←from_join hS he hne]
  have:=from_len (s:=exL s e) (2*e) e
  rwa [exL_length] at this
 rw[hF1,hF0,hnn] at hJl
 clear hne
 obtain⟨D,hDD⟩:∃ D,doneL (exL s e) e=D:=⟨_,rfl⟩
 obtain⟨rr,hrr⟩:∃ r,rootL s e root.toNat=r:=⟨_,rfl⟩
 obtain⟨lc,hlc⟩:∃ l,lone+shrLone s e=l:=⟨_,rfl⟩
 rw[hrr] at HMd
 rw[hDD] at HD
 rw[hDD,hrr,hlc]
 have HLc:=Lib.hid hlc
 clear hDD hrr hlc
 rw[hA] at HOth hAi
 rw[hF0] at HFr0 hF0i
 rw[hF1] at HFr1 hF1i
 rw[hnn] at HD HOth HFr0 HFr1 HNm HMd hAi hF0i hF1i hn he hnl ⊢
 obtain⟨NA,hNA⟩:∃ N,A.length=N:=⟨_,rfl⟩
 obtain⟨N0,hN0⟩:∃ N,F0.length=N:=⟨_,rfl⟩
 obtain⟨N1,hN1⟩:∃ N,F1.length=N:=⟨_,rfl⟩
 rw[hNA] at hAl
 have HNA:=Lib.hid hNA
 have HN0:=Lib.hid hN0
 have HN1:=Lib.hid hN1
 have HAi:=Lib.hid hAi
 have HF0i:=Lib.hid hF0i
 have HF1i:=Lib.hid hF1i
 have HNl:=Lib.hid hnl
 obtain⟨E0,hE0⟩:∃ x,2*e=x:=⟨_,rfl⟩
 obtain⟨E1,hE1⟩:∃ x,E0+1=x:=⟨_,rfl⟩
 have hw2:IntKind.i64.wrap (2*(e:Int))=(E0:Int):=by rw[show 2*(e:Int)=(E0:Int) by omega];exact IntWalk.i64_in _ (by omega)
 have hw3:IntKind.i64.wrap ((E0:Int)+1)=(E1:Int):=by rw[show (E0:Int)+1=(E1:Int) by omega];exact IntWalk.i64_in _ (by omega)
 rw[hE0] at HFr0 HFr1
 rw[hE1] at HFr1
 have hE0n:E0<n:=by omega
 have hE1n:E1<n:=by omega
 have HI:=Lib.hid hI
 unfold refV at HOth HFr0 HFr1 HMd
 unfold refV
 have he1:Ev R w R ((w.alloc (.cells #[.slice a0 n cap0,.int .i64 root,.int .i64 lone] 27)).alloc (.cells #[.slice none 0 0,.int .i64 0,.int .i64 0] 27)):=((Ev.refl hI).alloc _).alloc _
 have hb1:((w.alloc (.cells #[.slice a0 n cap0,.int .i64 root,.int .i64 lone] 27)).alloc (.cells #[.slice none 0 0,.int .i64 0,.int .i64 0] 27)).heap[w.heap.size]?=some (.cells #[.slice a0 n cap0,.int .i64 root,.int .i64 lone] 27 (0,0)):=by
  rw[Below.heap_alloc _ _ _ (by simp)]
  exact heap_alloc_new w _
 have hb2:((w.alloc (.cells #[.slice a0 n cap0,.int .i64 root,.int .i64 lone] 27)).alloc (.cells #[.slice none 0 0,.int .i64 0,.int .i64 0] 27)).heap[w.heap.size+1]?=some (.cells #[.slice none 0 0,.int .i64 0,.int .i64 0] 27 (0,0)):=by
  have:=heap_alloc_new (w.alloc (.cells #[.slice a0 n cap0,.int .i64 root,.int .i64 lone] 27)) (.cells #[.slice none 0 0,.int .i64 0,.int .i64 0] 27)
  simpa using this
 have hn1:R w.heap.size=none:=hI.none_of_ge (Nat.le_refl _)
 have hn2:R (w.heap.size+1)=none:=hI.none_of_ge (by omega)
 go_enter Tryz.func82,Tryz.ntmps82
 go_upto_region 1 with fail
 obtain⟨wb,hwb⟩:∃ wb,wb=(w.alloc (.cells #[.slice a0 n cap0,.int .i64 root,.int .i64 lone] 27)).alloc (.cells #[.slice none 0 0,.int .i64 0,.int .i64 0] 27):=⟨_,rfl⟩
 have hwz:wb.heap.size=w.heap.size+1+1:=by rw[hwb];simp
 rw[←hwb] at he1 hb1 hb2 ⊢
 have HB1:=Lib.hid (fun w' (h:Ev R wb R w')=>h.box3 hb1 hn1)
 have HB2:=Lib.hid (fun w' (h:Ev R wb R w')=>h.box3 hb2 hn2)
 have HEb:=Lib.hid he1
 have HZb:=Lib.hid hwz
 have HEd:=Lib.hid ((Ev.refl he1.inv).drew)
 obtain⟨x0,x1,x2,_⟩:=box_cells (HB1.out _ HEd.out).1
 clear hwb hb1 hb2 hn1 hn2 hI hv hv0 hS he1 hwz hnn hA hF0 hF1 hNA hN0 hN1 hE0 hE1 hAi hF0i hF1i hnl
 obtain⟨J,hJ⟩:∃ J,F1 ++ F0=J:=⟨_,rfl⟩
 obtain⟨NJ,hNJ⟩:∃ N,J.length=N:=⟨_,rfl⟩
 have HJe:=Lib.hid hJ
 have HNJ:=Lib.hid hNJ
 have hl0:N0≤n+1:=by have:=(HF0i.out _ (List.mem_singleton.2 rfl)).2;rw[HN0.out] at this;exact this
 have hl1:N1≤n+1:=by have:=(HF1i.out _ (List.mem_singleton.2 rfl)).2;rw[HN1.out] at this;exact this
 clear hJ hNJ
 go_cut [5] (fun s5 wx=>∃ a c,s5=.slice a NJ c∧Ev R wb R wx∧OwnI R wb.heap.size 3 wx (.slice a NJ c) (toI J))
 case first=>
  by_cases h0:N0=0
  ·have HJ0:Hid (J=F1):=Lib.hid (by rw[←HJe.out,List.eq_nil_of_length_eq_zero (by rw[HN0.out];exact h0:F0.length=0),List.append_nil])
   have HN1J:Hid (N1=NJ):=Lib.hid (by rw[←HNJ.out,HJ0.out,HN1.out])
   subst h0
   go_region_law (first
    |(refine step_app_nil rfl (.tmp 11) (.tmp 16) rfl (a1:=a5) (n:=N1) (c:=c5) (a2:=a7) (c2:=c7) ?h1 ?h2 ?h3 ?_;(case h1=>simp[Act.eval]);(case h2=>simp[Act.eval]);(case h3=>exact HO5.out.capLe (by rw[toI_length];exact HN1.out));have HE8:=HEd;have HO8:Hid (OwnI R wb.heap.size 3 w6 (.slice a5 N1 c5) (toI J)):=Lib.hid (by rw[HJ0.out];exact HO5.out))
    |(go_simp;go_at_call 124;(with_reducible refine (HFr1.out _ (HEb.out.trans HEd.out)).mono ?_);rintro z w6 ⟨v6,rfl,he6,ho6⟩;obtain⟨a5,c5,rfl,_⟩:=ho6.ints.open;rw[toI_length,HN1.out] at ho6 ⊢;have HO5:=Lib.hid (ho6.mono HEd.out.size);have HEd:=Lib.hid (HEd.out.trans he6);clear he6 ho6;obtain⟨x0,x1,x2,_⟩:=box_cells (HB1.out _ HEd.out).1)
    |(go_simp;go_at_call 124;(with_reducible refine (HFr0.out _ (HEb.out.trans HEd.out)).mono ?_);rintro z w6 ⟨v6,rfl,he6,ho6⟩;obtain⟨a7,c7,rfl,_⟩:=ho6.ints.open;rw[toI_length,HN0.out] at ho6 ⊢;have HO5:=Lib.hid (HO5.out.ev he6);have HEd:=Lib.hid (HEd.out.trans he6);clear he6 ho6;obtain⟨x0,x1,x2,_⟩:=box_cells (HB1.out _ HEd.out).1))
   all_goals (go_wp2_with fail;go_meet)
   all_goals exact⟨_,_,by rw[HN1J.out],HE8.out,by rw[←HN1J.out];exact HO8.out⟩
  ·have hpos:0<N0:=by omega
   go_region_law (first
    |(refine step_app_row 25 3 1 8 (.int .i64 0) Tryz.underlying25 int_info rfl (by decide) (by decide) rfl (.tmp 11) (.tmp 16) rfl (v:=.slice a5 N1 c5) (n:=N1) (xs:=(toI F1).map (Value.int .i64)) (B:=wb.heap.size) (R:=R) (by have h:=HO5.out;unfold OwnI at h;rw[toI_length,HN1.out] at h;exact h) ?h1 ⟨g7,0,none⟩ N0 c7 ((toI F0).map (Value.int .i64)) ?hm ?h2 ?h3 ?h4 ?h5 ?h6 ?h7 ?_;(case h1=>simp[Act.eval]);(case hm=>rw[List.length_map,toI_length,HN0.out,Nat.mul_one]);(case h2=>simp[Act.eval]);(case h3=>exact own_news HO7.out (by rw[toI_length];exact HN0.out));(case h4=>exact news_one _);(case h5=>omega);(case h6=>exact HEd.out.size);(case h7=>exact fun q hq=>HEd.out.inv.none_of_ge hq);intro v8 w8 ho8 hg8 hs8;have HE8:=Lib.hid (HEd.out.app HO5.out (Nat.le_refl _) hg8);have HO8:Hid (OwnI R wb.heap.size 3 w8 v8 (toI J)):=Lib.hid (ints_app HN1.out HN0.out HJe.out ho8);clear ho8 hg8 hs8)
    |(go_simp;go_at_call 124;(with_reducible refine (HFr1.out _ (HEb.out.trans HEd.out)).mono ?_);rintro z w6 ⟨v6,rfl,he6,ho6⟩;obtain⟨a5,c5,rfl,_⟩:=ho6.ints.open;rw[toI_length,HN1.out] at ho6 ⊢;have HO5:=Lib.hid (ho6.mono HEd.out.size);have HEd:=Lib.hid (HEd.out.trans he6);clear he6 ho6;obtain⟨x0,x1,x2,_⟩:=box_cells (HB1.out _ HEd.out).1)
    |(go_simp;go_at_call 124;(with_reducible refine (HFr0.out _ (HEb.out.trans HEd.out)).mono ?_);rintro z w6 ⟨v6,rfl,he6,ho6⟩;obtain⟨a7,c7,rfl,_⟩:=ho6.ints.open;rw[toI_length,HN0.out] at ho6 ⊢;have HO5:=Lib.hid (HO5.out.ev he6);obtain⟨g7,rfl,_,_,_,_⟩:=ho6.headAt (i:=0) (by rw[toI_length];exact HN0.out) hpos;have HO7:=Lib.hid ho6;have HEd:=Lib.hid (HEd.out.trans he6);clear he6 ho6;obtain⟨x0,x1,x2,_⟩:=box_cells (HB1.out _ HEd.out).1))
   all_goals (go_wp2_with fail;go_meet)
   all_goals exact sl_open HNJ.out HE8.out HO8.out
 case rest=>
  obtain⟨a4,c4,rfl,hev,ho⟩:=hcut
  obtain⟨w4,hw4e⟩:∃ w4,w4=wc:=⟨_,rfl⟩
  subst hw4e
  have HE4:=Lib.hid hev
  have HO4:=Lib.hid ho
  have HRi:Hid (RowsIn n e (A ++ [J])):=Lib.hid (HAi.out.app fun u hu=>by
   rw[List.mem_singleton.1 hu,←HJe.out]
   refine⟨fun x hx=>?_,hJl⟩
   rcases List.mem_append.1 hx with h|h
   ·exact (HF1i.out _ (List.mem_singleton.2 rfl)).1 x h
   ·exact (HF0i.out _ (List.mem_singleton.2 rfl)).1 x h)
  have HC:=Lib.hid (show shrRows s e=A ++ [J] by rw[HCr.out,HJe.out])
  obtain⟨Y,hY⟩:∃ Y,A ++ [J]=Y:=⟨_,rfl⟩
  obtain⟨NB,hNB⟩:∃ N,(A ++ [J]).length=N:=⟨_,rfl⟩
  have hNBb:NB≤n+1:=by rw[←hNB,List.length_append,HNA.out,List.length_singleton];omega
  have HNB:=Lib.hid hNB
  have HYe:=Lib.hid hY
  obtain⟨LD,hLD⟩:∃ L,D.length=L:=⟨_,rfl⟩
  have HLD:=Lib.hid hLD
  have HEd:=Lib.hid ((Ev.refl hev.inv).drew)
  have HEx:=Lib.hid (((Ev.refl hev.inv).alloc (.cells #[.slice a4 NJ c4] 25)).drew)
  have HMm:Hid (∀ w' a8 c8 vs8,Ev R wb R w'→OwnV R wb.heap.size 25 1 w' (.slice a8 NB c8) NB vs8→RowsLL R w' (fun k=>(Value.slice a8 NB c8).ownBlock=some k) vs8 (A ++ [J])→Calls Tryz.prog 125 #[.agg #[.slice a0 n cap0,.int .i64 root,.int .i64 lone],.slice a8 NB c8,.int .i64 (e:Int)] w' (RetMap R w' D rr lc)):=Lib.hid (fun w' a8 c8 vs8 hE hO hR=>by
   have hM:=HMd.out w' (HEb.out.trans hE) _ _ _ _ (A ++ [J]) (by rw[HNB.out];exact hO) (by rw[HNB.out];exact hR) HRi.out (by rw[HNB.out];omega)
   rw[HNB.out,←HC.out,HD.out,HEm.out,HLc.out] at hM
   exact hM)
  obtain⟨x0,x1,x2,_⟩:=box_cells (HB1.out _ (HE4.out.trans HEd.out)).1
  have xx0:=(box_cells (HB1.out _ (HE4.out.trans HEx.out)).1).1
  have xx1:=(box_cells (HB1.out _ (HE4.out.trans HEx.out)).1).2.1
  have xx2:=(box_cells (HB1.out _ (HE4.out.trans HEx.out)).1).2.2.1
  clear hev ho hY hNB hLD hJl
  go_wp2_with fail
  go_region_law (first
   |(refine step_app_row 134 25 1 24 nilS Tryz.underlying134 islice_info rfl (by decide) (by decide) rfl (.tmp 21) (.tmp 23) rfl (HO5.out.alloc (.cells #[.slice a4 NJ c4] 25)) ?h1 ⟨w5.heap.size,0,none⟩ 1 1 [.slice a4 NJ c4] rfl ?h2 ?h3 ?h4 ?h5 ?h6 ?h7 ?_;(case h1=>simp[Act.eval]);(case h2=>simp[Act.eval]);(case h3=>exact one_cell _ _);(case h4=>exact one_one _ _ _);(case h5=>omega);(case h6=>have h8:=HE4.out.size;have h9:=(HEd.out.alloc (.cells #[.slice a4 NJ c4] 25)).size;simp at h8 h9 ⊢;omega);(case h7=>exact fun q hq=>(HEd.out.alloc (.cells #[.slice a4 NJ c4] 25)).inv.none_of_ge hq);intro v8 w8 ho8 hg8 hs8;have HE8:=Lib.hid ((HE4.out.trans (HEd.out.alloc (.cells #[.slice a4 NJ c4] 25))).appV ((HO5.out.alloc (.cells #[.slice a4 NJ c4] 25))) (Nat.le_refl _) hg8);obtain⟨a8,c8,vs8,rfl,ho8,hr8⟩:=rows_next HNA.out.symm (HR5.out.ev ((Ev.refl HEd.out.inv).alloc (.cells #[.slice a4 NJ c4] 25))) (HRo.out.ev ((Ev.refl HEd.out.inv).alloc (.cells #[.slice a4 NJ c4] 25))) ho8 hg8 hs8;rw[HNB.out] at ho8 hr8 ⊢;have HM:=Lib.hid (HMm.out _ _ _ _ HE8.out ho8 hr8);obtain⟨x0,x1,x2,_⟩:=box_cells (HB1.out _ HE8.out).1;clear ho8 hr8 hg8 hs8)
   |(refine step_app_row 134 25 1 24 nilS Tryz.underlying134 islice_info rfl (by decide) (by decide) rfl (.tmp 21) (.tmp 23) rfl HO5.out ?h1 ⟨w4.heap.size,0,none⟩ 1 1 [.slice a4 NJ c4] rfl ?h2 ?h3 ?h4 ?h5 ?h6 ?h7 ?_;(case h1=>simp[Act.eval]);(case h2=>simp[Act.eval]);(case h3=>exact one_at HCx.out);(case h4=>exact one_one _ _ _);(case h5=>omega);(case h6=>have h8:=HE4.out.size;have h9:=(HEx.out).size;simp at h8 h9 ⊢;omega);(case h7=>exact fun q hq=>(HEx.out).inv.none_of_ge hq);intro v8 w8 ho8 hg8 hs8;have HE8:=Lib.hid ((HE4.out.trans (HEx.out)).appV (HO5.out) (Nat.le_refl _) hg8);obtain⟨a8,c8,vs8,rfl,ho8,hr8⟩:=rows_next HNA.out.symm HR5.out HRo.out ho8 hg8 hs8;rw[HNB.out] at ho8 hr8 ⊢;have HM:=Lib.hid (HMm.out _ _ _ _ HE8.out ho8 hr8);obtain⟨x0,x1,x2,_⟩:=box_cells (HB1.out _ HE8.out).1;clear ho8 hr8 hg8 hs8)
   |(go_simp;go_at_call 123;(with_reducible refine (HOth.out _ (HEb.out.trans (HE4.out.trans HEd.out))).mono ?_);rintro z w5 ⟨a5,c5,vs5,rfl,he5,ho5,hr5⟩;rw[HNA.out] at ho5 hr5 ⊢;have HRo:=Lib.hid (rowOk_old (HO4.out.drew) HNJ.out he5 ho5);skip;have HO5:=Lib.hid (ho5.mono (B':=wb.heap.size) (HE4.out.trans HEd.out).size);have HR5:=Lib.hid hr5;have HEd:=Lib.hid (HEd.out.trans he5);clear he5 ho5 hr5;obtain⟨x0,x1,x2,_⟩:=box_cells (HB1.out _ (HE4.out.trans HEd.out)).1;have hlt5:w.heap.size<w5.heap.size:=lt_of_cell x0)
   |(go_simp;go_at_call 123;(with_reducible refine (HOth.out _ (HEb.out.trans (HE4.out.trans HEx.out))).mono ?_);rintro z w5 ⟨a5,c5,vs5,rfl,he5,ho5,hr5⟩;rw[HNA.out] at ho5 hr5 ⊢;have HRo:=Lib.hid (rowOk_old ((HO4.out.alloc (.cells #[.slice a4 NJ c4] 25)).drew) HNJ.out he5 ho5);have HCx:Hid (w5.cell? ⟨w4.heap.size,0,none⟩=some (.slice a4 NJ c4)):=Lib.hid (by rw[he5.cell (by simp) (HE4.out.inv.none_of_ge (Nat.le_refl _))];simp);have HO5:=Lib.hid (ho5.mono (B':=wb.heap.size) (HE4.out.trans HEx.out).size);have HR5:=Lib.hid hr5;have HEx:=Lib.hid (HEx.out.trans he5);clear he5 ho5 hr5;obtain⟨x0,x1,x2,_⟩:=box_cells (HB1.out _ (HE4.out.trans HEx.out)).1;have hlt5:w.heap.size<w5.heap.size:=lt_of_cell x0)
   |(go_simp;go_at_call 125;refine HM.out.mono ?_;rintro z w9 ⟨a9,c9,rfl,he9,ho9⟩;rw[HLD.out] at ho9 ⊢;unfold refV;have HO9:=Lib.hid (ho9.mono HE8.out.size);have HE9:=Lib.hid (HE8.out.trans he9);clear he9 ho9;obtain⟨y0,y1,y2,yz⟩:=box_cells (HB2.out _ HE9.out).1;obtain⟨x0,x1,x2,_⟩:=box_cells (HB1.out _ HE9.out).1))
  all_goals (go_wp2_with fail)
  all_goals (
   have hb3:=set3 (x:=.slice a9 LD c9) (y:=.int .i64 rr) (z:=.int .i64 lc) (HB2.out _ HE9.out).1
   obtain⟨u0,u1,u2,_⟩:=box_cells hb3
   have hn2:=(HB2.out _ HE9.out).2
   refine bodyPost_ret (v:=refV (.slice a9 LD c9) rr lc) ?_ rfl ⟨a9,c9,by rw[HLD.out],?_,?_⟩
   ·simp[results,Tryz.results82,go_sem,u0,u1,u2,refV]
   ·exact (((HEb.out.trans HE9.out).setCell (by simp) hn2 _).setCell (by simp) hn2 _).setCell (by simp) hn2 _
   ·have hne:∀ (o:Nat),(Value.slice a9 LD c9).ownBlock≠some (⟨w.heap.size+1,o,none⟩:Addr).block:=fun o e'=>by
     have h1:=(HO9.out.lt _ e').1
     have h2:=HZb.out
     have h3:(⟨w.heap.size+1,o,none⟩:Addr).block=w.heap.size+1:=rfl
     omega
    rw[HLD.out]
    exact (((HO9.out.mono (by have:=HZb.out;omega)).setCell (hne 0) _).setCell (hne 1) _).setCell (hne 2) _
  )
end
section
open Go.RowKit
set_option linter.unusedVariables false
theorem eqlIn_func (d:Nat) (F:Fn) (a b:Array Value) (w:World):(Op.equalIn (d+1) 52 (.func F a b) .nilFunc).run Tryz.prog w=.ok false w:=by
 simp[Op.equalIn,run_underlying Tryz.underlying52]
theorem eqlIn_nilf (d:Nat) (w:World):(Op.equalIn (d+1) 52 .nilFunc .nilFunc).run Tryz.prog w=.ok true w:=by
 simp[Op.equalIn,run_underlying Tryz.underlying52]
theorem eql_func (F:Fn) (a b:Array Value) (w:World):(binOp .eql 52 (.func F a b) .nilFunc).run Tryz.prog w=.ok (.bool false) w:=by
 simp only[binOp]
 simp[Op.equal,Op.maxDepth,eqlIn_func 9999]
theorem eql_nilf (w:World):(binOp .eql 52 .nilFunc .nilFunc).run Tryz.prog w=.ok (.bool true) w:=by
 simp only[binOp]
 simp[Op.equal,Op.maxDepth,eqlIn_nilf 9999]
set_option maxRecDepth 100000 in
theorem by_0 (w:World):Calls Tryz.prog 70 #[.int .i64 0] w fun e w'=>e=.returned (.func (.func 132) #[] #[.pointer (some ⟨w.heap.size,0,none⟩)])∧w'=w.alloc (.cells #[.func (.func 43) #[] #[]] 32):=by
 have hmf:=@makeFunc_run
 go_enter Tryz.func70,Tryz.ntmps70
 go_wp2_with go_in
 go_ret
 exact⟨rfl,rfl⟩
set_option maxRecDepth 100000 in
theorem by_2 (w:World):Calls Tryz.prog 70 #[.int .i64 2] w fun e w'=>e=.returned (.func (.func 132) #[] #[.pointer (some ⟨w.heap.size,0,none⟩)])∧w'=w.alloc (.cells #[.func (.func 63) #[] #[]] 32):=by
 have hmf:=@makeFunc_run
 go_enter Tryz.func70,Tryz.ntmps70
 go_wp2_with go_in
 go_ret
 exact⟨rfl,rfl⟩
set_option maxRecDepth 100000 in
theorem by_3 (w:World):Calls Tryz.prog 70 #[.int .i64 3] w fun e w'=>e=.returned (.func (.func 132) #[] #[.pointer (some ⟨w.heap.size,0,none⟩)])∧w'=w.alloc (.cells #[.func (.func 12) #[] #[]] 32):=by
 have hmf:=@makeFunc_run
 go_enter Tryz.func70,Tryz.ntmps70
 go_wp2_with go_in
 go_ret
 exact⟨rfl,rfl⟩
set_option maxRecDepth 100000 in
theorem by_4 (w:World):Calls Tryz.prog 70 #[.int .i64 4] w fun e w'=>e=.returned (.func (.func 132) #[] #[.pointer (some ⟨w.heap.size,0,none⟩)])∧w'=w.alloc (.cells #[.func (.func 16) #[] #[]] 32):=by
 have hmf:=@makeFunc_run
 go_enter Tryz.func70,Tryz.ntmps70
 go_wp2_with go_in
 go_ret
 exact⟨rfl,rfl⟩
set_option maxRecDepth 100000 in
theorem by_5 (w:World):Calls Tryz.prog 70 #[.int .i64 5] w fun e w'=>e=.returned (.func (.func 132) #[] #[.pointer (some ⟨w.heap.size,0,none⟩)])∧w'=w.alloc (.cells #[.func (.func 107) #[] #[]] 32):=by
 have hmf:=@makeFunc_run
 go_enter Tryz.func70,Tryz.ntmps70
 go_wp2_with go_in
 go_ret
 exact⟨rfl,rfl⟩
set_option maxRecDepth 100000 in
theorem by_1 (w:World):Calls Tryz.prog 70 #[.int .i64 1] w fun e w'=>e=.returned (.func (.func 106) #[] #[])∧w'=w:=by
 have hmf:=@makeFunc_run
 go_enter Tryz.func70,Tryz.ntmps70
 go_wp2_with go_in
 go_ret
 exact⟨rfl,rfl⟩
set_option maxRecDepth 100000 in
theorem by_6 (w:World):Calls Tryz.prog 70 #[.int .i64 6] w fun e w'=>e=.returned (.func (.func 133) #[] #[.pointer (some ⟨w.heap.size,0,none⟩)])∧w'=w.alloc (.cells #[.func (.func 109) #[] #[]] 131):=by
 have hmf:=@makeFunc_run
 go_enter Tryz.func70,Tryz.ntmps70
 go_wp2_with go_in
 go_ret
 exact⟨rfl,rfl⟩
set_option maxRecDepth 100000 in
theorem by_7 (w:World):Calls Tryz.prog 70 #[.int .i64 7] w fun e w'=>e=.returned (.func (.func 133) #[] #[.pointer (some ⟨w.heap.size,0,none⟩)])∧w'=w.alloc (.cells #[.func (.func 110) #[] #[]] 131):=by
 have hmf:=@makeFunc_run
 go_enter Tryz.func70,Tryz.ntmps70
 go_wp2_with go_in
 go_ret
 exact⟨rfl,rfl⟩
set_option maxRecDepth 100000 in
theorem by_8 (w:World):Calls Tryz.prog 70 #[.int .i64 8] w fun e w'=>e=.returned (.func (.func 135) #[] #[.pointer (some ⟨w.heap.size,0,none⟩)])∧w'=w.alloc (.cells #[.func (.func 22) #[] #[]] 32):=by
 have hmf:=@makeFunc_run
 go_enter Tryz.func70,Tryz.ntmps70
 go_wp2_with go_in
 go_ret
 exact⟨rfl,rfl⟩
set_option maxRecDepth 100000 in
theorem by_9 (w:World):Calls Tryz.prog 70 #[.int .i64 9] w fun e w'=>e=.returned (.func (.func 135) #[] #[.pointer (some ⟨w.heap.size,0,none⟩)])∧w'=w.alloc (.cells #[.func (.func 20) #[] #[]] 32):=by
 have hmf:=@makeFunc_run
 go_enter Tryz.func70,Tryz.ntmps70
 go_wp2_with go_in
 go_ret
 exact⟨rfl,rfl⟩
set_option maxRecDepth 100000 in
theorem by_10 (w:World):Calls Tryz.prog 70 #[.int .i64 10] w fun e w'=>e=.returned (.func (.func 112) #[] #[])∧w'=w:=by
 have hmf:=@makeFunc_run
 go_enter Tryz.func70,Tryz.ntmps70
 go_wp2_with go_in
 go_ret
 exact⟨rfl,rfl⟩
end
section
set_option linter.unusedVariables false
def par (s:List Nat) (n:Nat) (e f:Nat):Prop:=e<n∧f<n∧((nth (namesL s) (2*e)=nth (namesL s) (2*f)∧nth (namesL s) (2*e+1)=nth (namesL s) (2*f+1))∨(nth (namesL s) (2*e)=nth (namesL s) (2*f+1)∧nth (namesL s) (2*e+1)=nth (namesL s) (2*f)))
section
variable {s t : List Nat} (hs : IsPerm s) (he : s.length % 2 = 0) (ht : IsPerm t) (hl : t.length = s.length) (hm : Mates t)
include hs he ht hl hm
end
end
end Go.Proofs.YtklkgicjfnbndaaGreat
