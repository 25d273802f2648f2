/- script.Play: act by act. -/
import Derived.Test.YtklkgicjfnbndaaGreatZScriptDoes32
import Derived.Test.YtklkgicjfnbndaaGreatZScriptDoes40
import Derived.Test.YtklkgicjfnbndaaGreatZScriptDoes37
import Derived.Deep.RegionHeld
import Derived.Test.YtklkgicjfnbndaaGreatZScriptDoes31
import Derived.Test.YtklkgicjfnbndaaGreatZScriptDoes39
import Derived.Test.YtklkgicjfnbndaaGreatZScriptDoes29
import Derived.Test.YtklkgicjfnbndaaGreatZScriptDoes48
import Derived.Test.YtklkgicjfnbndaaGreatZScriptDoes41
import Derived.Test.YtklkgicjfnbndaaGreatZScriptDoes24
import Derived.Test.YtklkgicjfnbndaaGreatZScriptDoes26
import Derived.Test.YtklkgicjfnbndaaGreatZScriptDoes33
import Derived.Test.YtklkgicjfnbndaaGreatZScriptDoes49
import Derived.Test.YtklkgicjfnbndaaGreatZScriptDoes50
namespace Go.Proofs.YtklkgicjfnbndaaGreat
section
open Go.RowKit
set_option linter.unusedVariables false
set_option linter.unusedSimpArgs false
noncomputable def stepP (q:List Nat × Int × Int) (a:Nat × Nat × Nat):(List Nat × Int × Int) × Int:=
 let n:=max q.1.length 1
 let c:=actC q.1 q.2.1 q.2.2 (a.1:Int) ((a.2.1 % n:Nat):Int) ((a.2.2 % n:Nat):Int)
 (if c=0 then (actM q.1 q.2.1 (a.1:Int) ((a.2.1 % n:Nat):Int) ((a.2.2 % n:Nat):Int),actRt q.1 q.2.1 (a.1:Int) ((a.2.1 % n:Nat):Int),actLn q.1 q.2.2 (a.1:Int) ((a.2.1 % n:Nat):Int)) else q,c)
noncomputable def playG (x:(List Nat × Int × Int) × List Int) (l:List (Nat × Nat × Nat)):(List Nat × Int × Int) × List Int:=
 l.foldl (fun x a=>((stepP x.1 a).1,x.2 ++ [(stepP x.1 a).2])) x
noncomputable def playL (l:List (Nat × Nat × Nat)):(List Nat × Int × Int) × List Int:=playG (([0,1],0,0),[]) l
def actAt (l:List (Nat × Nat × Nat)) (i:Nat):Nat × Nat × Nat:=l.getD i (0,0,0)
theorem playL_take {l:List (Nat × Nat × Nat)} {i:Nat} (hi:i<l.length):playL (l.take (i+1))=((stepP (playL (l.take i)).1 (actAt l i)).1,(playL (l.take i)).2 ++ [(stepP (playL (l.take i)).1 (actAt l i)).2]):=by
 unfold playL playG
 rw[List.take_succ_eq_append_getElem hi,List.foldl_append]
 simp[actAt,List.getD,hi]
theorem playL_codes (l:List (Nat × Nat × Nat)):∀ i,i≤l.length→(playL (l.take i)).2.length=i
 | 0,_=>rfl
 | i+1,hi=>by rw[playL_take (by omega),List.length_append,playL_codes l i (by omega)];rfl
theorem actCs_at:∀ (l:List (Nat × Nat × Nat)) (i:Nat),i<l.length→(actCs l)[i*3]?=some (.int .i64 ((actAt l i).1:Int))∧(actCs l)[i*3+1]?=some (.int .i64 ((actAt l i).2.1:Int))∧(actCs l)[i*3+2]?=some (.int .i64 ((actAt l i).2.2:Int))
 | q :: l,0,_=>⟨rfl,rfl,rfl⟩
 | q :: l,i+1,h=>by
  have ih:=actCs_at l i (by simpa using h)
  have e:actCs (q :: l)=[.int .i64 (q.1:Int),.int .i64 (q.2.1:Int),.int .i64 (q.2.2:Int)] ++ actCs l:=rfl
  have e2:∀ k,(actCs (q :: l))[k+3]?=(actCs l)[k]?:=fun k=>by rw[e,List.getElem?_append_right (by simp)];simp
  rw[show (i+1)*3=i*3+3 by omega,show i*3+3+1=(i*3+1)+3 by omega,show i*3+3+2=(i*3+2)+3 by omega,e2,e2,e2]
  exact ih
theorem actCs_len:∀ l:List (Nat × Nat × Nat),(actCs l).length=l.length*3
 | []=>rfl
 | q :: l=>by
  have e:actCs (q :: l)=[.int .i64 (q.1:Int),.int .i64 (q.2.1:Int),.int .i64 (q.2.2:Int)] ++ actCs l:=rfl
  rw[e,List.length_append,actCs_len l]
  simp
  omega
theorem actLn_le (s:List Nat) (lone k D:Int):lone≤actLn s lone k D∧actLn s lone k D≤lone+2:=by
 unfold actLn
 have h1:=cutLone_le s (D.toNat / 2)
 have h2:=shrLone_le s (D.toNat / 2)
 split <;> omega
def RetPlay (R:Reg) (w:World) (q:(List Nat × Int × Int) × List Int) (e:Ending) (w':World):Prop:=
 ∃ p v R',e=.returned (.tuple #[p,v])∧Ev R w R' w'∧MapAt R' p q.1.1 q.1.2.1 q.1.2.2∧OwnV R' w.heap.size 30 1 w' v q.2.length (q.2.map (Value.int .i64))
theorem errno_info:(Tryz.prog.info? 30).map (fun i=>(i.zero,i.size,i.bytes))=some (some (.int .i64 0),1,8):=by kernel_rfl
set_option maxRecDepth 100000 in
set_option maxHeartbeats 2000000 in
theorem play_any (R:Reg) (w:World) (hI:Inv R w) (a:Option Addr) (cap:Nat) (bs:List Nat) (hv:FreeB R w (.slice a bs.length cap) bs) (hcap:bs.length≤cap) (hlen:bs.length≤1000):
  Calls Tryz.prog 29 #[.slice a bs.length cap] w (RetPlay R w (playL (actsL bs))):=by
 have HS:=Lib.hid (seed_any R w hI)
 have HRd:=Lib.hid (fun R' w' (h:Ev R w R' w')=>read_any R' w' h.inv a cap bs (hv.ev h) hcap hlen)
 obtain⟨l,hl⟩:∃ l,actsL bs=l:=⟨_,rfl⟩
 obtain⟨k,hk⟩:∃ k,l.length=k:=⟨_,rfl⟩
 have hkb:k≤1000:=by rw[←hk,←hl];unfold actsL;rw[List.length_map,List.length_range];omega
 have HK:=Lib.hid hk
 rw[hl] at HRd ⊢
 clear hI hv hl hk
 go_enter Tryz.func29,Tryz.ntmps29
 go_wp2_with fail
 refine HS.out.mono ?_
 rintro z w2 ⟨p,R2,rfl,he2,hp2⟩
 have HE2:=Lib.hid he2
 have HP2:=Lib.hid hp2
 clear he2 hp2
 go_wp2_with fail
 refine (HRd.out _ _ HE2.out).mono ?_
 rintro z w3 ⟨v3,rfl,he3,ho3⟩
 obtain⟨a3,c3,rfl,_⟩:=ho3.open
 rw[HK.out] at ho3 ⊢
 have HE3:=Lib.hid he3
 have HO3:=Lib.hid ho3
 have HP3:=Lib.hid (he3.map HP2.out)
 clear he3 ho3
 go_wp2_with fail
 go_loopg [4,5,15] k (fun g v4 v5 v15 wr=>∃ (i:Nat) (Rr:Reg) (q4:Value) (s:List Nat) (root:Int) (lone:Nat),i≤k∧k-i≤g∧v15=.int .i64 (i:Int)∧q4=v4∧Ev R2 w3 Rr wr∧MapAt Rr q4 s root lone∧(playL (l.take i)).1=(s,root,(lone:Int))∧lone≤2*i∧OwnV Rr w3.heap.size 30 1 wr v5 i ((playL (l.take i)).2.map (Value.int .i64)))
 case atStart=>exact⟨0,R2,p,[0,1],0,0,Nat.zero_le _,by omega,rfl,rfl,Ev.refl HE3.out.inv,HP3.out,rfl,by omega,OwnV.nil _ _ _ _ _⟩
 case round=>
  obtain⟨i,Rr,q4,s,root,lone,hik,hg,rfl,rfl,hev,hmp,hpl,hln,hov⟩:=hrel
  have HE:=Lib.hid hev
  have HM:=Lib.hid hmp
  have HPl:=Lib.hid hpl
  have HOv:=Lib.hid hov
  have HI:=Lib.hid hev.inv
  obtain⟨a5,c5,rfl,_⟩:=hov.open
  clear hev hmp hpl hov
  by_cases hi:i<k
  ·have hir:(i:Int)<(k:Int):=by omega
   obtain⟨h0,h1,h2⟩:=actCs_at l i (by rw[HK.out];exact hi)
   obtain⟨g3,rfl,_,_,x0,_⟩:=(HO3.out.ev HE.out).headAt (i:=i*3) (by rw[actCs_len,HK.out];omega)
   obtain⟨g3',e3,_,_,x1,_⟩:=(HO3.out.ev HE.out).headAt (i:=i*3+1) (by rw[actCs_len,HK.out];omega)
   cases e3
   obtain⟨g3',e3,_,_,x2,_⟩:=(HO3.out.ev HE.out).headAt (i:=i*3+2) (by rw[actCs_len,HK.out];omega)
   cases e3
   rw[h0] at x0
   rw[h1] at x1
   rw[h2] at x2
   obtain⟨A,hA⟩:∃ A,actAt l i=A:=⟨_,rfl⟩
   have HA:=Lib.hid hA
   rw[hA] at x0 x1 x2
   obtain⟨ka,kd,ke⟩:=A
   dsimp only at x0 x1 x2
   clear h0 h1 h2 hA
   have heb:Ev Rr wr Rr (wr.alloc (.cells #[.int .i64 (ka:Int),.int .i64 (kd:Int),.int .i64 (ke:Int)] 50)):=(Ev.refl HI.out).alloc _
   have hbx:=heap_alloc_new wr (.cells #[.int .i64 (ka:Int),.int .i64 (kd:Int),.int .i64 (ke:Int)] 50)
   obtain⟨wb,hwb⟩:∃ x,wr.alloc (.cells #[.int .i64 (ka:Int),.int .i64 (kd:Int),.int .i64 (ke:Int)] 50)=x:=⟨_,rfl⟩
   rw[hwb] at heb hbx
   have HEb:=Lib.hid heb
   obtain⟨y0,y1,y2,_⟩:=boxC_cells hbx
   have HD:=Lib.hid (darts_any Rr wb heb.inv q4 s root lone (heb.map HM.out))
   have HWb:=Lib.hid hwb
   clear heb hbx hwb
   obtain⟨N,hN⟩:∃ N,max s.length 1=N:=⟨_,rfl⟩
   have HN:=Lib.hid hN
   clear hN
   go_upto_region 6 with fail
   try rw[HWb.out]
   go_cut [8] (fun s8 wx=>s8=.int .i64 (N:Int)∧wx=wb)
   case first=>
    go_wp2_with fail
    refine HD.out.mono ?_
    rintro z w5 ⟨rfl,rfl⟩
    go_wp2_with fail
    all_goals go_meet
    all_goals exact⟨by have:=HN.out;congr 1;omega,rfl⟩
   case rest=>
    obtain⟨rfl,rfl⟩:=hcut
    have hnp:1≤N:=by have:=HN.out;omega
    obtain⟨dd,hdd⟩:∃ x,kd % N=x:=⟨_,rfl⟩
    obtain⟨ee,hee⟩:∃ x,ke % N=x:=⟨_,rfl⟩
    have hr1:(kd:Int).tmod (N:Int)=(dd:Int):=by rw[←hdd];rfl
    have hr2:(ke:Int).tmod (N:Int)=(ee:Int):=by rw[←hee];rfl
    have hr3:(kd:Int) % (N:Int)=(dd:Int):=by rw[←hdd];rfl
    have hr4:(ke:Int) % (N:Int)=(ee:Int):=by rw[←hee];rfl
    have hn0:¬ (N:Int)=0:=by omega
    have hn1:¬ N=0:=by omega
    have hddl:dd≤200000:=by
     have h1:dd<N:=by rw[←hdd];exact Nat.mod_lt _ (by omega)
     have h2:=(HM.out.ok HI.out).2.2.1
     have:=HN.out
     omega
    have HDo:=Lib.hid (fun w' (h:Ev Rr wc Rr w')=>sdo_any Rr w' h.inv q4 s root lone (h.map (HEb.out.map HM.out)) (ka:Int) (dd:Int) (ee:Int) (by omega) (by omega))
    have HSt:=Lib.hid (show stepP (playL (l.take i)).1 (actAt l i)=(if actC s root lone ka dd ee=0 then (actM s root ka dd ee,actRt s root ka dd,actLn s lone ka dd) else (s,root,(lone:Int)),actC s root lone ka dd ee) by
     rw[HPl.out,HA.out]
     unfold stepP
     dsimp only
     rw[HN.out,hdd,hee])
    have hlnn:=actLn_le s lone ka dd
    obtain⟨C,hC⟩:∃ x,actC s root lone ka dd ee=x:=⟨_,rfl⟩
    obtain⟨M,hM⟩:∃ x,actM s root ka dd ee=x:=⟨_,rfl⟩
    obtain⟨rt,hrt⟩:∃ x,actRt s root ka dd=x:=⟨_,rfl⟩
    obtain⟨ln,hln'⟩:∃ x,actLn s lone ka dd=x:=⟨_,rfl⟩
    rw[hC,hM,hrt,hln'] at HDo HSt
    rw[hln'] at hlnn
    have HLn:=Lib.hid hlnn
    have HEd:=Lib.hid ((Ev.refl HEb.out.inv).drew)
    clear hC hM hrt hln' hdd hee hlnn
    go_wp2_with fail
    refine wp_region_held_drew (S:=(fun w':World=>w'.cell? ⟨wr.heap.size,0,none⟩=some (.int .i64 (ka:Int))∧w'.cell? ⟨wr.heap.size,1,none⟩=some (.int .i64 (kd:Int))∧w'.cell? ⟨wr.heap.size,2,none⟩=some (.int .i64 (ke:Int)))) (by kernel_rfl) ⟨y0,y1,y2⟩ (fun hHeld=>?_)
    refine tk 0 (v:=?v0) ?h0 ?_
    case h0=>(intro w' ⟨s0,s1,s2⟩;go_simp;try with_reducible rfl)
    try simp only[Act.put,rd]
    refine tk 1 (v:=?v1) ?h1 ?_
    case h1=>(intro w' ⟨s0,s1,s2⟩;go_simp;try with_reducible rfl)
    try simp only[Act.put,rd]
    refine tk 2 (v:=?v2) ?h2 ?_
    case h2=>(intro w' ⟨s0,s1,s2⟩;go_simp;try with_reducible rfl)
    try simp only[Act.put,rd]
    refine tk 3 (v:=?v3) ?h3 ?_
    case h3=>(intro w' ⟨s0,s1,s2⟩;go_simp;try with_reducible rfl)
    try simp only[Act.put,rd]
    refine tk 4 (v:=?v4) ?h4 ?_
    case h4=>(intro w' ⟨s0,s1,s2⟩;go_simp;try with_reducible rfl)
    try simp only[Act.put,rd]
    refine tk 5 (v:=?v5) ?h5 ?_
    case h5=>(intro w' ⟨s0,s1,s2⟩;go_simp;try with_reducible rfl)
    try simp only[Act.put,rd]
    refine tk 6 (v:=?v6) ?h6 ?_
    case h6=>(intro w' ⟨s0,s1,s2⟩;go_simp;try with_reducible rfl)
    try simp only[Act.put,rd]
    refine tk 7 (v:=?v7) ?h7 ?_
    case h7=>(intro w' ⟨s0,s1,s2⟩;go_simp;try with_reducible rfl)
    try simp only[Act.put,rd]
    refine tk 8 (v:=?v8) ?h8 ?_
    case h8=>(intro w' ⟨s0,s1,s2⟩;go_simp;try with_reducible rfl)
    try simp only[Act.put,rd]
    refine tk 9 (v:=?v9) ?h9 ?_
    case h9=>(intro w' ⟨s0,s1,s2⟩;go_simp;try with_reducible rfl)
    try simp only[Act.put,rd]
    refine tk 10 (v:=?v10) ?h10 ?_
    case h10=>(intro w' ⟨s0,s1,s2⟩;go_simp;try with_reducible rfl)
    try simp only[Act.put,rd]
    refine tk 11 (v:=?v11) ?h11 ?_
    case h11=>(intro w' ⟨s0,s1,s2⟩;go_simp;try with_reducible rfl)
    try simp only[Act.put,rd]
    refine wpAnyH_ready (rs:=[12]) (by kernel_rfl) (by simp) (AllReadyH.cons rfl (fun K hK=>?_) AllReadyH.nil)
    go_simp
    refine (HDo.out _ HEd.out).mono ?_
    rintro z w6 ⟨q6,R6,rfl,he6,hq6,hm6⟩
    have HQ6:=Lib.hid hq6
    have HM6:=Lib.hid hm6
    have HE6:=Lib.hid (HEd.out.trans he6)
    have hbx6:w6.heap[wr.heap.size]?=some (.cells #[.int .i64 (ka:Int),.int .i64 (kd:Int),.int .i64 (ke:Int)] 50 (0,0)):=(HE6.out.block _ (by have:=HWb.out;rw[←this];simp) (HI.out.none_of_ge (Nat.le_refl _))).trans (by rw[←HWb.out];exact heap_alloc_new wr (.cells #[.int .i64 (ka:Int),.int .i64 (kd:Int),.int .i64 (ke:Int)] 50))
    obtain⟨z0,z1,z2,_⟩:=boxC_cells hbx6
    have hS6:(fun w':World=>w'.cell? ⟨wr.heap.size,0,none⟩=some (.int .i64 (ka:Int))∧w'.cell? ⟨wr.heap.size,1,none⟩=some (.int .i64 (kd:Int))∧w'.cell? ⟨wr.heap.size,2,none⟩=some (.int .i64 (ke:Int))) w6:=⟨z0,z1,z2⟩
    clear he6 hq6 hm6 hbx6
    go_simp
    refine hK.out _ _ hS6 (fun hHeld6=>?_)
    clear hHeld
    refine tk 13 (v:=?v13) ?h13 ?_
    case h13=>(intro w' ⟨s0,s1,s2⟩;go_simp;try with_reducible rfl)
    try simp only[Act.put,rd]
    refine tk 14 (v:=?v14) ?h14 ?_
    case h14=>(intro w' ⟨s0,s1,s2⟩;go_simp;try with_reducible rfl)
    try simp only[Act.put,rd]
    refine tk 15 (v:=?v15) ?h15 ?_
    case h15=>(intro w' ⟨s0,s1,s2⟩;go_simp;try with_reducible rfl)
    try simp only[Act.put,rd]
    refine tk 16 (v:=?v16) ?h16 ?_
    case h16=>(intro w' ⟨s0,s1,s2⟩;go_simp;try with_reducible rfl)
    try simp only[Act.put,rd]
    refine tk 17 (v:=?v17) ?h17 ?_
    case h17=>(intro w' ⟨s0,s1,s2⟩;go_simp;try with_reducible rfl)
    try simp only[Act.put,rd]
    refine wpAnyH_done (by kernel_rfl) ?_ _
    clear hHeld6 z0 z1 z2 y0 y1 y2
    have hE8:Ev R6 w6 R6 (w6.alloc (.cells #[.int .i64 C] 30)):=(Ev.refl HE6.out.inv).alloc _
    have HE8:=Lib.hid (HE.out.trans (HEb.out.trans (HE6.out.trans hE8)))
    have HO8:=Lib.hid ((HOv.out.ev (HEb.out.trans HE6.out)).ev hE8)
    have hsz8:w3.heap.size≤(w6.alloc (.cells #[.int .i64 C] 30)).heap.size:=HE8.out.size
    have hnew:∀ j u,[Value.int .i64 C][j]?=some u→(w6.alloc (.cells #[.int .i64 C] 30)).cell? ((⟨w6.heap.size,0,none⟩:Addr).add j)=some u:=fun j u hj=>by
     match j,hj with
     | 0,hj=>cases hj;exact cells_at (heap_alloc_new w6 (.cells #[.int .i64 C] 30)) 0
     | j+1,hj=>cases hj
    have hz2:∀ u∈[Value.int .i64 C],u.oneCell'=true:=by intro u hu;simp at hu;subst hu;rfl
    have hz3:i+1≤8388608:=by omega
    have hz5:∀ q,(w6.alloc (.cells #[.int .i64 C] 30)).heap.size≤q→R6 q=none:=fun q hq=>HE8.out.inv.none_of_ge hq
    clear hE8
    by_cases hC0:C=0
    ·have hcb:(C == 0)=true:=by rw[hC0];rfl
     have HC0:=Lib.hid hC0
     clear hC0
     go_wp2_with (at_builtin;refine wpList_app_row 43 30 1 8 (.int .i64 0) Tryz.underlying43 errno_info rfl (by decide) (by decide) rfl _ _ rfl HO8.out rfl ⟨w6.heap.size,0,none⟩ 1 1 [.int .i64 C] rfl rfl hnew hz2 hz3 hsz8 hz5 ?_)
     intro v9 w9 ho9 hg9 hs9
     have HE9:=Lib.hid (HE8.out.appV HO8.out (Nat.le_refl _) hg9)
     rw[show ((playL (l.take i)).2.map (Value.int .i64)) ++ [Value.int .i64 C]=(playL (l.take (i+1))).2.map (Value.int .i64) by rw[playL_take (by rw[HK.out];exact hi),HSt.out];simp] at ho9
     obtain⟨a9,c9,rfl,_⟩:=ho9.open
     have HO9:=Lib.hid ho9
     clear ho9 hg9 hs9 hnew hsz8 hcb hz2 hz3 hz5
     go_wp2_with fail
     go_roundg (k-(i+1))
     case measure=>omega
     case rel=>
      have hm:=HM6.out HC0.out
      have hln:=HLn.out
      refine⟨i+1,R6,q6,M,rt,ln.toNat,by omega,by omega,by go_num,rfl,HE9.out,by rw[show ((ln.toNat:Nat):Int)=ln by omega];exact hm,?_,by omega,HO9.out⟩
      rw[playL_take (by rw[HK.out];exact hi),HSt.out,HC0.out,if_pos rfl,show ((ln.toNat:Nat):Int)=ln by omega]
    ·have hcb:(C == 0)=false:=beq_eq_false_iff_ne.2 hC0
     have HC0:=Lib.hid hC0
     clear hC0
     go_wp2_with (at_builtin;refine wpList_app_row 43 30 1 8 (.int .i64 0) Tryz.underlying43 errno_info rfl (by decide) (by decide) rfl _ _ rfl HO8.out rfl ⟨w6.heap.size,0,none⟩ 1 1 [.int .i64 C] rfl rfl hnew hz2 hz3 hsz8 hz5 ?_)
     intro v9 w9 ho9 hg9 hs9
     have HE9:=Lib.hid (HE8.out.appV HO8.out (Nat.le_refl _) hg9)
     rw[show ((playL (l.take i)).2.map (Value.int .i64)) ++ [Value.int .i64 C]=(playL (l.take (i+1))).2.map (Value.int .i64) by rw[playL_take (by rw[HK.out];exact hi),HSt.out];simp] at ho9
     obtain⟨a9,c9,rfl,_⟩:=ho9.open
     have HO9:=Lib.hid ho9
     clear ho9 hg9 hs9 hnew hsz8 hcb hz2 hz3 hz5
     go_wp2_with fail
     go_roundg (k-(i+1))
     case measure=>omega
     case rel=>
      refine⟨i+1,R6,q4,s,root,lone,by omega,by omega,by go_num,rfl,HE9.out,(HEb.out.trans HE6.out).map HM.out,?_,by omega,HO9.out⟩
      rw[playL_take (by rw[HK.out];exact hi),HSt.out,if_neg HC0.out]
  ·obtain rfl:i=k:=by omega
   have hta:l.take i=l:=by rw[←HK.out,List.take_length]
   have hpl:=HPl.out
   have hov:=HOv.out
   rw[hta] at hpl hov
   have hcl:(playL l).2.length=i:=by have:=playL_codes l i (by rw[HK.out];exact Nat.le_refl _);rwa [hta] at this
   have hfin:MapAt Rr q4 (playL l).1.1 (playL l).1.2.1 (playL l).1.2.2:=by rw[hpl];exact HM.out
   have HF:=Lib.hid hfin
   have HO:=Lib.hid (show OwnV Rr w.heap.size 30 1 wr (.slice a5 i c5) (playL l).2.length ((playL l).2.map (Value.int .i64)) by
    rw[hcl];exact hov.mono (Nat.le_trans HE2.out.size HE3.out.size))
   clear hpl hov hcl hfin hta
   go_wp2_with fail
   go_ret2
   exact⟨q4,_,Rr,rfl,HE2.out.trans (HE3.out.trans HE.out),HF.out,HO.out⟩
end
section
open Go.RowKit
set_option linter.unusedVariables false
theorem FreeB.zero3 {R:Reg} {w:World} (hI:Inv R w):FreeB R (w.alloc (.cells #[.int .u8 0,.int .u8 0,.int .u8 0] 5)) (.slice (some ⟨w.heap.size,0,none⟩) 3 3) [0,0,0]:=by
 refine⟨some ⟨w.heap.size,0,none⟩,3,rfl,by unfold maxLen;simp,fun i hi=>⟨w.heap.size,0,rfl,hI.none_of_ge (Nat.le_refl _),?_,?_⟩⟩
 ·have h:=heap_alloc_new w (.cells #[.int .u8 0,.int .u8 0,.int .u8 0] 5)
  match i,hi with
  | 0,_=>exact cells_at h 0
  | 1,_=>exact cells_at h 1
  | 2,_=>exact cells_at h 2
 ·match i,hi with
  | 0,_=>exact Nat.zero_le _
  | 1,_=>exact Nat.zero_le _
  | 2,_=>exact Nat.zero_le _
theorem act000:actC [0,1] 0 0 0 0 0=0:=by
 have h1:wayL [0,1] 0 0 0=[2,1,0,3]:=leaf01
 unfold actC
 rw[if_neg (by omega)]
 show wayC [0,1] 0 0 0 0 0=0
 unfold wayC
 rw[if_neg (by decide),if_neg (by decide),h1]
 exact newErr_ok perm2103 (by unfold MapOk;simp)
theorem play000:playL (actsL [0,0,0])=(([2,1,0,3],0,0),[0]):=by
 have h1:actM [0,1] 0 0 0 0=[2,1,0,3]:=leaf01
 have h2:stepP ([0,1],0,0) (0,0,0)=(([2,1,0,3],0,0),0):=by
  show (if actC [0,1] 0 0 0 0 0=0 then (actM [0,1] 0 0 0 0,actRt [0,1] 0 0 0,actLn [0,1] 0 0 0) else ([0,1],0,0),actC [0,1] 0 0 0 0 0)=_
  rw[act000,if_pos rfl,h1]
  rfl
 have h3:actsL [0,0,0]=[(0,0,0)]:=rfl
 rw[h3]
 show ((stepP ([0,1],0,0) (0,0,0)).1,[] ++ [(stepP ([0,1],0,0) (0,0,0)).2])=_
 rw[h2]
 rfl
set_option maxRecDepth 100000 in
set_option maxHeartbeats 1000000 in
theorem awake24_any (R:Reg) (w:World) (hI:Inv R w):Calls Tryz.prog 27 #[] w (RetTrue R w):=by
 have HEa:=Lib.hid ((Ev.refl hI).alloc (.cells #[.int .u8 0,.int .u8 0,.int .u8 0] 5))
 have hp:=play_any R (w.alloc (.cells #[.int .u8 0,.int .u8 0,.int .u8 0] 5)) HEa.out.inv (some ⟨w.heap.size,0,none⟩) 3 [0,0,0] (FreeB.zero3 hI) (by simp) (by simp)
 rw[play000] at hp
 have HPl:=Lib.hid hp
 clear hI hp
 go_enter Tryz.func27,Tryz.ntmps27
 go_wp2_with fail
 refine HPl.out.mono ?_
 rintro e w2 ⟨q,v,R2,rfl,he2,hq,hv⟩
 obtain⟨a2,c2,rfl,_⟩:=hv.open
 obtain⟨g2,rfl,_,_,x0,_⟩:=hv.headAt (i:=0) (by simp)
 have HE2:=Lib.hid (HEa.out.trans he2)
 have HEd:=Lib.hid (edges_any R2 w2 he2.inv q _ 0 0 hq)
 have hvt:=vertices_any R2 w2 he2.inv q _ 0 0 hq
 rw[sizes2103] at hvt
 have HV:=Lib.hid hvt
 have HO:=Lib.hid hv
 clear he2 hq hv hvt
 go_wp2_with fail
 refine HEd.out.mono ?_
 rintro e w' ⟨rfl,rfl⟩
 go_wp2_with fail
 refine HV.out.mono ?_
 rintro e w3 ⟨rfl,R3,he3⟩
 obtain⟨g3,e3,_,_,x3,_⟩:=(HO.out.ev he3).headAt (i:=0) (by simp)
 cases e3
 have HE3:=Lib.hid (HE2.out.trans he3)
 clear he3 x0
 go_wp2_with fail
 go_ret
 exact⟨by first|rfl|simp,R3,HE3.out⟩
end
section
set_option linter.unusedVariables false
theorem starL_grown {s:List Nat} (hs:IsPerm s) (hes:s.length % 2=0) {d:Nat} (hd:d<s.length):GrownL s (starL s d) 1 ((orbitL (phiL s) d).length-1)∧(orbitL (phiL s) d).length≤s.length:=by
 obtain⟨k1,k2,k3,_⟩:=star_face hs hes hd rfl
 have h:=star_grown hs hes hd rfl
 unfold starL
 rw[starGo_eq hs k1 k2 _ (Nat.le_refl _),stG_all k3]
 refine⟨h,?_⟩
 have:=List.Nodup.length_le_of_subset k1 (l₂:=List.range s.length) (fun x hx=>List.mem_range.2 (k2 x hx))
 simpa using this
theorem actC_way (s:List Nat) (root lone:Int) {k:Nat} (hk:k<5) (D E:Int):actC s root lone (k:Int) D E=wayC s root lone k D E∧actM s root (k:Int) D E=wayL s k D E:=by
 rcases (by omega:k=0∨k=1∨k=2∨k=3∨k=4) with rfl|rfl|rfl|rfl|rfl <;>
 ·constructor
  ·unfold actC
   rw[if_neg (by omega)]
   rfl
  ·rfl
end
section
open Go.RowKit
set_option linter.unusedVariables false
set_option linter.unusedSimpArgs false
set_option maxRecDepth 100000 in
set_option maxHeartbeats 2000000 in
theorem y_way (R:Reg) (w:World) (hI:Inv R w) (v:Value) (s:List Nat) (root lone:Int) (hv:FreeI R w v (toI s)) (hS:IsPerm s) (hn:s.length≤99000) (hev:s.length % 2=0) (k:Nat) (hk:k<5) (d e:Int) (hst:k=3→∀ D:Nat,d=(D:Int)→D<s.length→s.length+2*(orbitL (phiL s) D).length≤99000):
  Calls Tryz.prog 38 #[refV v root lone,.int .i64 (k:Int),.int .i64 d,.int .i64 e] w (fun z w2=>(wayR s.length k d e=false∧RetD R w v s root lone 1 z w2)∨(wayR s.length k d e=true∧wayB s k d e=false∧RetD R w v s root lone 8 z w2)∨(wayR s.length k d e=true∧wayB s k d e=true∧RetD R w v (wayL s k d e) root lone 0 z w2)):=by
 obtain⟨a0,c0,rfl,_⟩:=hv.open
 rw[toI_length] at hv ⊢
 unfold refV
 have he0:Ev R w R (w.alloc (.cells #[.slice a0 s.length c0,.int .i64 root,.int .i64 lone] 27)):=(Ev.refl hI).alloc _
 have he01:Ev R (w.alloc (.cells #[.slice a0 s.length c0,.int .i64 root,.int .i64 lone] 27)) R ((w.alloc (.cells #[.slice a0 s.length c0,.int .i64 root,.int .i64 lone] 27)).alloc (.cells #[.slice none 0 0,.int .i64 0,.int .i64 0] 27)):=(Ev.refl he0.inv).alloc _
 have he1:Ev R w R ((w.alloc (.cells #[.slice a0 s.length c0,.int .i64 root,.int .i64 lone] 27)).alloc (.cells #[.slice none 0 0,.int .i64 0,.int .i64 0] 27)):=he0.trans he01
 have hn1:R w.heap.size=none:=hI.none_of_ge (Nat.le_refl _)
 have hB1:=fun w' (h:Ev R ((w.alloc (.cells #[.slice a0 s.length c0,.int .i64 root,.int .i64 lone] 27)).alloc (.cells #[.slice none 0 0,.int .i64 0,.int .i64 0] 27)) R w')=>(he01.trans h).boxC3 (heap_alloc_new w _) hn1
 have hB2:=fun w' (h:Ev R ((w.alloc (.cells #[.slice a0 s.length c0,.int .i64 root,.int .i64 lone] 27)).alloc (.cells #[.slice none 0 0,.int .i64 0,.int .i64 0] 27)) R w')=>h.boxC3 (heap_alloc_new (w.alloc (.cells #[.slice a0 s.length c0,.int .i64 root,.int .i64 lone] 27)) (.cells #[.slice none 0 0,.int .i64 0,.int .i64 0] 27)) (he0.inv.none_of_ge (Nat.le_refl _))
 have hza:((w.alloc (.cells #[.slice a0 s.length c0,.int .i64 root,.int .i64 lone] 27)).alloc (.cells #[.slice none 0 0,.int .i64 0,.int .i64 0] 27)).heap.size=w.heap.size+2:=by simp
 rw[World.size_alloc] at hB2
 obtain⟨n,hnn⟩:∃ n,s.length=n:=⟨_,rfl⟩
 have HNn:=Lib.hid hnn
 rw[hnn] at he0 he01 he1 hB1 hB2 hn hev hza ⊢
 rw[HNn.out] at hst
 have HHv:=Lib.hid hv
 have HSp:=Lib.hid hS
 clear hv hnn hS
 go_enter Tryz.func38,Tryz.ntmps38
 go_upto_region 1 with fail
 obtain⟨wa,hwa⟩:∃ wa,(w.alloc (.cells #[.slice a0 n c0,.int .i64 root,.int .i64 lone] 27)).alloc (.cells #[.slice none 0 0,.int .i64 0,.int .i64 0] 27)=wa:=⟨_,rfl⟩
 try rw[hwa] at he1 hB1 hB2 hza ⊢
 have HB1:=Lib.hid (fun w' (h:Ev R wa R w')=>boxC_cells (hB1 w' h).1)
 have HB2:=Lib.hid hB2
 have HZa:=Lib.hid hza
 have HEa:=Lib.hid he1
 have HE0:=Lib.hid (Ev.refl he1.inv)
 obtain⟨x0,x1,x2,_⟩:=HB1.out _ (Ev.refl he1.inv)
 obtain⟨y0,y1,y2,yz⟩:=boxC_cells (HB2.out _ (Ev.refl he1.inv)).1
 clear he0 he01 he1 hB1 hB2 hza hwa hn1 hI
 have b1:decide ((k:Int)<0)=false:=decide_eq_false (by omega)
 have b2:decide (10<(k:Int))=false:=decide_eq_false (by omega)
 have b3:decide ((k:Int)<5)=true:=decide_eq_true (by omega)
 have b4:k<5:=hk
 have b5:k≤10:=by omega
 have hca:=r23do_any R wa HE0.out.inv (.slice a0 s.length c0) s root lone (HHv.out.ev HEa.out) HSp.out (by rw[HNn.out];omega) (by rw[HNn.out];exact hev) k hk d e (by rw[HNn.out];exact hst)
 rw[HNn.out] at hca
 unfold refV at hca
 obtain⟨WR,hWR⟩:∃ x,wayR n k d e=x:=⟨_,rfl⟩
 obtain⟨WB,hWB⟩:∃ x,wayB s k d e=x:=⟨_,rfl⟩
 obtain⟨WL,hWL⟩:∃ x,wayL s k d e=x:=⟨_,rfl⟩
 rw[hWR,hWB,hWL] at hca
 have HWR:=Lib.hid hWR
 have HWB:=Lib.hid hWB
 have HWL:=Lib.hid hWL
 have HCa:=Lib.hid hca
 clear hca hst hWR hWB hWL
 go_wp2_with fail
 refine HCa.out.mono ?_
 rintro z w2 (⟨hw1,rfl,he2⟩|⟨hw1,hw2,rfl,he2⟩|⟨hw1,hw2,af,cf,rfl,he2,hof⟩)
 ·have HE2:=Lib.hid he2
  have HW1:=Lib.hid hw1
  clear he2 hw1 x0 x1 x2 y0 y1 y2 yz
  obtain⟨y0,y1,y2,yz⟩:=boxC_cells (HB2.out _ HE2.out).1
  try simp only[refV]
  go_wp2_with fail
  have hb3:=set3 (x:=.slice a0 n c0) (y:=.int .i64 (root)) (z:=.int .i64 (lone)) (HB2.out _ HE2.out).1
  obtain⟨u0,u1,u2,_⟩:=boxC_cells hb3
  have hn2:=(HB2.out _ HE2.out).2
  have hfin:=(((HEa.out.trans HE2.out).setCell (p:=⟨w.heap.size+1,0,none⟩) (by simp) hn2 (.slice a0 n c0)).setCell (p:=⟨w.heap.size+1,1,none⟩) (by simp) hn2 (.int .i64 (root))).setCell (p:=⟨w.heap.size+1,2,none⟩) (by simp) hn2 (.int .i64 (lone))
  refine bodyPost_ret (v:=.tuple #[refV (.slice a0 n c0) (root) (lone),.int .i64 1]) ?_ rfl (Or.inl ⟨HWR.out.trans HW1.out,⟨.slice a0 n c0,rfl,hfin,?_,fun k e=>Or.inl e⟩⟩)
  ·simp[results,Tryz.results38,go_sem,u0,u1,u2,refV]
  ·have:=HHv.out.ev hfin
   rwa [HNn.out] at this
 ·have HE2:=Lib.hid he2
  have HW1:=Lib.hid hw1
  have HW2:=Lib.hid hw2
  clear he2 hw1 hw2 x0 x1 x2 y0 y1 y2 yz
  obtain⟨y0,y1,y2,yz⟩:=boxC_cells (HB2.out _ HE2.out).1
  try simp only[refV]
  go_wp2_with fail
  have hb3:=set3 (x:=.slice a0 n c0) (y:=.int .i64 (root)) (z:=.int .i64 (lone)) (HB2.out _ HE2.out).1
  obtain⟨u0,u1,u2,_⟩:=boxC_cells hb3
  have hn2:=(HB2.out _ HE2.out).2
  have hfin:=(((HEa.out.trans HE2.out).setCell (p:=⟨w.heap.size+1,0,none⟩) (by simp) hn2 (.slice a0 n c0)).setCell (p:=⟨w.heap.size+1,1,none⟩) (by simp) hn2 (.int .i64 (root))).setCell (p:=⟨w.heap.size+1,2,none⟩) (by simp) hn2 (.int .i64 (lone))
  refine bodyPost_ret (v:=.tuple #[refV (.slice a0 n c0) (root) (lone),.int .i64 8]) ?_ rfl (Or.inr (Or.inl ⟨HWR.out.trans HW1.out,HWB.out.trans HW2.out,⟨.slice a0 n c0,rfl,hfin,?_,fun k e=>Or.inl e⟩⟩))
  ·simp[results,Tryz.results38,go_sem,u0,u1,u2,refV]
  ·have:=HHv.out.ev hfin
   rwa [HNn.out] at this
 ·have HE2:=Lib.hid he2
  have HOf:=Lib.hid hof
  have HSf:=Lib.hid (Nat.le_refl wa.heap.size)
  have HW1:=Lib.hid hw1
  have HW2:=Lib.hid hw2
  clear he2 hof hw1 hw2 x0 x1 x2 y0 y1 y2 yz
  try simp only[refV]
  obtain⟨y0,y1,y2,yz⟩:=boxC_cells (HB2.out _ HE2.out).1
  obtain⟨lf,hlf⟩:∃ l,(WL).length=l:=⟨_,rfl⟩
  rw[hlf] at HOf
  try rw[hlf]
  clear hlf
  go_wp2_with fail
  have hb3:=set3 (x:=.slice af lf cf) (y:=.int .i64 (root)) (z:=.int .i64 (lone)) (HB2.out _ HE2.out).1
  obtain⟨u0,u1,u2,_⟩:=boxC_cells hb3
  have hn2:=(HB2.out _ HE2.out).2
  have hne:∀ (o:Nat),(Value.slice af lf cf).ownBlock≠some (⟨w.heap.size+1,o,none⟩:Addr).block:=fun o e'=>by
   have h1:=(HOf.out.lt _ e').1
   have h2:=HZa.out
   have h4:=HSf.out
   have h3:(⟨w.heap.size+1,o,none⟩:Addr).block=w.heap.size+1:=rfl
   omega
  refine bodyPost_ret (v:=.tuple #[refV (.slice af lf cf) (root) (lone),.int .i64 0]) ?_ rfl (Or.inr (Or.inr ⟨HWR.out.trans HW1.out,HWB.out.trans HW2.out,⟨.slice af lf cf,rfl,?_,by rw[HWL.out];exact ((((HOf.out).setCell (hne 0) _).setCell (hne 1) _).setCell (hne 2) _).free,fun k e=>Or.inr ⟨by have:=(HOf.out.lt _ e).1;have:=HZa.out;have:=HSf.out;omega,by simp only[World.size_setCell];exact (HOf.out.lt _ e).2⟩⟩⟩))
  ·simp[results,Tryz.results38,go_sem,u0,u1,u2,refV]
  ·exact (((HEa.out.trans HE2.out).setCell (by simp) hn2 _).setCell (by simp) hn2 _).setCell (by simp) hn2 _
theorem r24do_any (R:Reg) (w:World) (hI:Inv R w) (v:Value) (s:List Nat) (root lone:Int) (hv:FreeI R w v (toI s)) (hS:IsPerm s) (hn:s.length≤99000) (hok:MapOk s root lone) (k d e:Int)
  (hst:k=3→∀ D:Nat,d=(D:Int)→D<s.length→s.length+2*(orbitL (phiL s) D).length≤99000)
  (hnw:∀ j:Nat,k=(j:Int)→j<5→wayR s.length j d e=true→wayB s j d e=true→newErr (toI (wayL s j d e)) root lone=0):
  Calls Tryz.prog 38 #[refV v root lone,.int .i64 k,.int .i64 d,.int .i64 e] w (fun z w2=>RetD R w v (if actC s root lone k d e=0 then actM s root k d e else s) (if actC s root lone k d e=0 then actRt s root k d else root) (if actC s root lone k d e=0 then actLn s lone k d else lone) (actC s root lone k d e) z w2):=by
 have hev:=hok.1
 have fin0:∀ (C:Int) (M:List Nat) (rt ln:Int) (z:Ending) (w2:World),actC s root lone k d e=C→(C=0→actM s root k d e=M∧actRt s root k d=rt∧actLn s lone k d=ln)→(C≠0→M=s∧rt=root∧ln=lone)→RetD R w v M rt ln C z w2 →
   RetD R w v (if actC s root lone k d e=0 then actM s root k d e else s) (if actC s root lone k d e=0 then actRt s root k d else root) (if actC s root lone k d e=0 then actLn s lone k d else lone) (actC s root lone k d e) z w2:=by
  intro C M rt ln z w2 hC h0 h1 hr
  rw[hC]
  by_cases hc:C=0
  ·rw[if_pos hc,if_pos hc,if_pos hc]
   obtain⟨a,b,c⟩:=h0 hc
   rw[a,b,c];exact hr
  ·rw[if_neg hc,if_neg hc,if_neg hc]
   obtain⟨a,b,c⟩:=h1 hc
   rw[a,b,c] at hr;exact hr
 have no0:∀ {C:Int} (h:C≠0) {P:Prop},C=0→P:=fun h _ h'=>absurd h' h
 by_cases hk:k<0∨10<k
 ·exact (y_opt R w hI v s root lone hv hS hn hev k d e hk).mono fun z w2 h=>fin0 15 s root lone z w2 (by unfold actC;rw[if_pos hk]) (no0 (by decide)) (fun _=>⟨rfl,rfl,rfl⟩) h
 ·by_cases h5:k<5
  ·obtain⟨j,rfl⟩:∃ j:Nat,k=(j:Int):=⟨k.toNat,by omega⟩
   have hj:j<5:=by omega
   have hrl:actRt s root (j:Int) d=root∧actLn s lone (j:Int) d=lone:=by
    rcases (by omega:j=0∨j=1∨j=2∨j=3∨j=4) with rfl|rfl|rfl|rfl|rfl <;> exact⟨rfl,rfl⟩
   obtain⟨hc,hm⟩:=actC_way s root lone hj d e
   refine (y_way R w hI v s root lone hv hS hn hev j hj d e (fun h=>hst (by rw[h];rfl))).mono fun z w2 h=>?_
   rcases h with ⟨a,h⟩|⟨a,b,h⟩|⟨a,b,h⟩
   ·exact fin0 1 s root lone z w2 (by rw[hc];unfold wayC;rw[if_pos a]) (no0 (by decide)) (fun _=>⟨rfl,rfl,rfl⟩) h
   ·exact fin0 8 s root lone z w2 (by rw[hc];unfold wayC;rw[if_neg (by rw[a];simp),if_pos b]) (no0 (by decide)) (fun _=>⟨rfl,rfl,rfl⟩) h
   ·exact fin0 0 _ root lone z w2 (by rw[hc];unfold wayC;rw[if_neg (by rw[a];simp),if_neg (by rw[b];simp)];exact hnw j rfl hj a b) (fun _=>⟨hm,hrl⟩) (fun h=>absurd rfl h) h
  ·have hroot:s.length=0∨(0≤root∧root<s.length):=by have:=hok.2.2.2.2;omega
   have hlone:0≤lone∧lone≤65536:=⟨hok.2.2.1,hok.2.2.2.1⟩
   rcases (by omega:k=5∨k=6∨k=7∨k=8∨k=9∨k=10) with rfl|rfl|rfl|rfl|rfl|rfl
   ·by_cases hd:0≤d∧d<s.length
    ·exact (y_root R w hI v s root lone hv hS hn hev d e hd).mono fun z w2 h=>fin0 0 s d lone z w2 (by
      show (if inR s.length d=true then (0:Int) else 5)=0
      unfold inR;rw[if_pos (decide_eq_true hd)]) (fun _=>⟨rfl,rfl,rfl⟩) (fun h=>absurd rfl h) h
    ·exact (y_noroot R w hI v s root lone hv hS hn hev d e (by omega)).mono fun z w2 h=>fin0 5 s root lone z w2 (by
      show (if inR s.length d=true then (0:Int) else 5)=5
      unfold inR;rw[if_neg (by rw[decide_eq_false hd];simp)]) (no0 (by decide)) (fun _=>⟨rfl,rfl,rfl⟩) h
   ·exact (y_dual R w hI v s root lone hv hS hn hev d e).mono fun z w2 h=>fin0 0 (phiL s) root lone z w2 rfl (fun _=>⟨rfl,rfl,rfl⟩) (fun h=>absurd rfl h) h
   ·exact (y_mirror R w hI v s root lone hv hS hn hev d e).mono fun z w2 h=>fin0 0 (invL s) root lone z w2 rfl (fun _=>⟨rfl,rfl,rfl⟩) (fun h=>absurd rfl h) h
   ·have hform:actC s root lone 8 d e=(if d<0 then 1 else if d.toNat<s.length then 0 else 1):=rfl
    by_cases hd:d<0∨(s.length:Int)≤d
    ·exact (y_out8 R w hI v s root lone hv hS hn hev d e hd).mono fun z w2 h=>fin0 1 s root lone z w2 (by
      rw[hform]
      by_cases h0:d<0
      ·rw[if_pos h0]
      ·rw[if_neg h0,if_neg (by omega)]) (no0 (by decide)) (fun _=>⟨rfl,rfl,rfl⟩) h
    ·obtain⟨D,rfl⟩:∃ D:Nat,d=(D:Int):=⟨d.toNat,by omega⟩
     have hD:D<s.length:=by omega
     exact (y_cut R w hI v s root lone hv hS hn hev D hD e (by omega) hlone).mono fun z w2 h=>fin0 0 _ _ _ z w2 (by rw[hform,if_neg (by omega),if_pos (by rw[Int.toNat_natCast];exact hD)]) (fun _=>⟨rfl,rfl,rfl⟩) (fun h=>absurd rfl h) h
   ·have hform:actC s root lone 9 d e=(if d<0 then 1 else if d.toNat<s.length then (if nth (namesL s) (2*(d.toNat / 2))=nth (namesL s) (2*(d.toNat / 2)+1) then 8 else 0) else 1):=rfl
    by_cases hd:d<0∨(s.length:Int)≤d
    ·exact (y_out9 R w hI v s root lone hv hS hn hev d e hd).mono fun z w2 h=>fin0 1 s root lone z w2 (by
      rw[hform]
      by_cases h0:d<0
      ·rw[if_pos h0]
      ·rw[if_neg h0,if_neg (by omega)]) (no0 (by decide)) (fun _=>⟨rfl,rfl,rfl⟩) h
    ·obtain⟨D,rfl⟩:∃ D:Nat,d=(D:Int):=⟨d.toNat,by omega⟩
     have hD:D<s.length:=by omega
     refine (y_shr R w hI v s root lone hv hS hn hev D hD e (by omega) hlone).mono fun z w2 h=>?_
     rcases h with ⟨a,h⟩|⟨a,h⟩
     ·exact fin0 8 s root lone z w2 (by rw[hform,if_neg (by omega),if_pos (by rw[Int.toNat_natCast];exact hD),Int.toNat_natCast,if_pos a]) (no0 (by decide)) (fun _=>⟨rfl,rfl,rfl⟩) h
     ·exact fin0 0 _ _ _ z w2 (by rw[hform,if_neg (by omega),if_pos (by rw[Int.toNat_natCast];exact hD),Int.toNat_natCast,if_neg a]) (fun _=>⟨rfl,rfl,rfl⟩) (fun h=>absurd rfl h) h
   ·exact (y_canon R w hI v s root lone hv hS hn hev hok d e).mono fun z w2 h=>fin0 0 _ _ lone z w2 rfl (fun _=>⟨rfl,rfl,rfl⟩) (fun h=>absurd rfl h) h
end
section
set_option linter.unusedVariables false
theorem way_err {s:List Nat} (hs:IsPerm s) {root lone:Int} (hok:MapOk s root lone) (hl:s.length≤1000) {k:Nat} (hk:k<5) {d e:Int} (h1:wayR s.length k d e=true) (h2:wayB s k d e=true):newErr (toI (wayL s k d e)) root lone=0:=by
 have he:=hok.1
 have hnat:∀ {x:Int},inR s.length x=true→∃ n:Nat,x=(n:Int)∧n<s.length:=fun {x} h=>by
  unfold inR at h
  have:=of_decide_eq_true h
  exact⟨x.toNat,by omega,by omega⟩
 have hgr:∃ v f,GrownL s (wayL s k d e) v f∧0≤v+f∧v+f≤1000∧0<s.length:=by
  rcases (by omega:k=0∨k=1∨k=2∨k=3∨k=4) with rfl|rfl|rfl|rfl|rfl
  ·obtain⟨D,rfl,hd⟩:=hnat h1
   exact⟨1,0,leaf_grown hs he hd,by decide,by decide,by omega⟩
  ·have h1':(inR s.length d && inR s.length e)=true:=h1
   rw[Bool.and_eq_true] at h1'
   obtain⟨D,rfl,hd⟩:=hnat h1'.1
   obtain⟨E,rfl,he'⟩:=hnat h1'.2
   have h3:nameI (phiL s) (atI s (D:Int))=nameI (phiL s) (atI s (E:Int)):=of_decide_eq_true h2
   rw[atI_in hd,atI_in he',nameI_in (by rw[phiL_length];exact hs.lt hd),nameI_in (by rw[phiL_length];exact hs.lt he')] at h3
   exact⟨0,1,chord_grown hs he hd he' h3,by decide,by decide,by omega⟩
  ·obtain⟨D,rfl,hd⟩:=hnat h1
   exact⟨1,0,split_grown hs he rfl hd,by decide,by decide,by omega⟩
  ·obtain⟨D,rfl,hd⟩:=hnat h1
   have h:=starL_grown hs he hd
   exact⟨1,_,h.1,by omega,by omega,by omega⟩
  ·obtain⟨D,rfl,hd⟩:=hnat h1
   have h3:flipB s D=true:=h2
   unfold flipB at h3
   have hm:=xor_one_lt he hd
   rw[orbI_in (by rw[phiL_length];exact hd),orbI_in (by rw[phiL_length];exact hm),nameI_in (by rw[phiL_length];exact hd),nameI_in (by rw[phiL_length];exact hm),toI_length,toI_length] at h3
   simp only[Bool.and_eq_true,decide_eq_true_eq,Bool.not_eq_true',decide_eq_false_iff_not] at h3
   obtain⟨m,pd,pa,pm,pb,hF⟩:=flipD_of hs he hd h3.1.1.1.1 h3.1.1.1.2 h3.1.1.2 h3.1.2 h3.2
   exact⟨0,0,FlipD.grown hs he hF,by decide,by decide,by omega⟩
 obtain⟨v,f,hgr,hvf,hvf2,h0⟩:=hgr
 have hes:=hgr.es
 have hev:=hgr.even
 obtain⟨o1,o2,o3,o4,o5⟩:=hok
 exact newErr_ok hgr.perm ⟨hev,by omega,o3,o4,Or.inr (by omega)⟩
end
end Go.Proofs.YtklkgicjfnbndaaGreat
