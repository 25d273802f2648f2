/- slices.Repeat of one number. Conditions: at most 4194304 of them. package perm: Names. Conditions: permutations are registered. -/
import Derived.Test.YtgphnkkdmlohlaaGreatDoorZWoodNo03
import Derived.Test.YtgphnkkdmlohlaaGreatDoorZWoodNo07
import Derived.Laws.CopyOwn
import Derived.IntWalk
namespace Go.Proofs.YtgphnkkdmlohlaaGreatDoor
section
open Go.RowKit
set_option linter.unusedVariables false
theorem mul_one (n:Nat) (hn:n≤4194304) (w:World):
  Calls Tryz.prog 90 #[.int .u64 1,.int .u64 (n:Int)] w fun e w'=>e=.returned (.tuple #[.int .u64 0,.int .u64 (n:Int)])∧w=w':=by
 refine (bits_Mul 1 n (by omega) (by omega) w).mono ?_
 rintro e w' ⟨rfl,rfl⟩
 refine⟨?_,rfl⟩
 rw[Nat.one_mul,Nat.div_eq_of_lt (by omega),Nat.mod_eq_of_lt (by omega)]
 rfl
def repCur (n k:Nat) (y:Int):List Value:=List.replicate k (.int .i64 y) ++ List.replicate (n-k) (.int .i64 0)
theorem repCur_length {n k:Nat} {y:Int} (h:k≤n):(repCur n k y).length=n:=by simp[repCur];omega
theorem repCur_splice {n k m:Nat} {y:Int} (h:k+m≤n):splice (repCur n k y) k (List.replicate m (.int .i64 y))=repCur n (k+m) y:=by
 unfold splice repCur
 rw[List.take_left' (by simp),List.length_replicate,←List.append_assoc,List.drop_append]
 simp only[List.length_replicate,List.drop_replicate,List.replicate_append_replicate]
 rw[show k-(k+m)=0 by omega,show k+m-k=m by omega,show n-k-m=n-(k+m) by omega]
 simp
theorem repCur_full (n:Nat) (y:Int):repCur n n y=(List.replicate n y).map (Value.int .i64):=by simp[repCur]
theorem repCur_get {n k j:Nat} {y:Int} (h:j<k):(repCur n k y)[j]?=some (.int .i64 y):=by
 unfold repCur
 rw[List.getElem?_append_left (by simpa using h)]
 simp[h]
set_option maxRecDepth 100000 in
set_option maxHeartbeats 1000000 in
theorem repeat_one (R:Reg) (w:World) (hI:Inv R w) (v:Value) (y:Int) (hv:Ints w v [y]) (n:Nat) (hn:n≤4194304):
  Calls Tryz.prog 64 #[v,.int .i64 (n:Int)] w (RetOwn R w (List.replicate n y)):=by
 obtain⟨a,cap,rfl,hv⟩:=hv.open
 obtain⟨b,off,rfl,hc⟩:=hv.cell (i:=0) (by simp)
 have hc':w.cell? ⟨b,off,none⟩=some (.int .i64 y):=hc
 have hlt:=lt_of_cell hc'
 have HM:=Lib.hid (mul_one n hn)
 have HI:=Lib.hid hI
 have HC:=Lib.hid hc'
 obtain⟨i0,hi,hz0,hz1,hz2⟩:=info_parts int_info
 clear hv hc hI hc'
 have h0:¬ ((n:Int)<0):=by omega
 have hu1:IntKind.u64.wrap (n:Int)=(n:Int):=by
  show (n:Int) % 18446744073709551616=n
  omega
 go_enter Tryz.func64,Tryz.ntmps64
 go_wp2_with fail
 refine (HM.out _).mono ?_
 rintro e w1 ⟨rfl,rfl⟩
 go_wp2_with (refine wpList_make_full _ rfl _ _ 25 rfl w.heap.size 3 i0 (.int .i64 0) 1 Tryz.underlying25 hi hz0 hz1 .i64 .i64 (n:Int) (n:Int) n rfl rfl rfl rfl ?q1 ?q2 (Nat.le_refl _) ?_)
 case q1=>rw[hz2];omega
 case q2=>unfold maxLen;omega
 intro w1 ho1 hg1
 have hcur:w1.heap[w.heap.size]?=some (.cells (repCur n 0 y).toArray 3 (0,0)):=by
  obtain⟨h1,h2⟩:=ho1
  rcases h2 with ⟨h2,_⟩|⟨g,cap',cur,hv,hg,hh,hn',hm,hs,ht⟩
  ·cases h2
  ·cases hv
   rw[hh]
   have:cur.toList=List.replicate n (.int .i64 0):=by
    have hs':cur.toList.length=n:=by simpa using hs
    rw[List.take_of_length_le (by omega)] at ht
    rw[ht]
    simpa using toList_madeCells_one (.int .i64 0) n
   rw[show cur=(List.replicate n (Value.int .i64 0)).toArray from by rw[←this]]
   simp[repCur]
 have hb1:Below w.heap.size w w1:=(Below.refl _ w).grown hg1 (Nat.le_refl _) (by simp)
 have HCUR:=Lib.hid hcur
 have HB1:=Lib.hid hb1
 have HC1:=Lib.hid (show w1.cell? ⟨b,off,none⟩=some (.int .i64 y) from (hb1.cell (p:=⟨b,off,none⟩) hlt).trans HC.out)
 clear ho1 hg1 hcur hb1
 have hsz:(Tryz.prog.info? 3).map (·.size)=some 1:=by rw[hi];simp[hz1]
 go_wp2_with (refine wpList_copy_splice rfl _ _ 25 25 rfl 3 Tryz.underlying25 hsz (some ⟨w.heap.size,0,none⟩) (some ⟨b,off,none⟩) n n 1 cap rfl rfl w.heap.size 0 (repCur n 0 y) 3 HCUR.out (List.replicate (Nat.min 1 n) (.int .i64 y)) ?q1 ?q2 ?q3 ?q4 w.heap.size w HB1.out (Nat.le_refl _) ?_)
 case q1=>simp
 case q2=>
  intro _ j u hj
  have hj1:=(List.getElem?_eq_some_iff.1 hj).1
  have hj0:j=0:=by simp[Nat.min_def] at hj1;split at hj1 <;> omega
  subst hj0
  have:u=.int .i64 y:=by
   have:=List.mem_of_getElem? hj
   exact (List.mem_replicate.1 this).2
  subst this
  exact HC1.out
 case q3=>rw[repCur_length (Nat.zero_le _)];simp[Nat.min_def];split <;> omega
 case q4=>intro u hu;rw[(List.mem_replicate.1 hu).2];rfl
 intro w2 hcur2 hb2
 have hcur2':w2.heap[w.heap.size]?=some (.cells (repCur n (Nat.min 1 n) y).toArray 3 (0,0)):=by
  rw[hcur2.out,repCur_splice (by simp[Nat.min_def];split <;> omega)]
  simp
 have HCUR2:=Lib.hid hcur2'
 have HB2:=Lib.hid hb2
 clear hcur2 hcur2' hb2
 go_wp2_with fail
 go_loopg [8] n (fun g v wr=>∃ k:Nat,k≤n∧n-k≤g∧(n=0∨1≤k)∧v=.int .i64 (k:Int)∧wr.heap[w.heap.size]?=some (.cells (repCur n k y).toArray 3 (0,0))∧Below w.heap.size w wr)
 case atStart=>exact⟨Nat.min 1 n,by simp[Nat.min_def];split <;> omega,by omega,by simp[Nat.min_def];split <;> omega,rfl,HCUR2.out,HB2.out⟩
 case round=>
  obtain⟨k,hk,hg,h1,rfl,hcu,hbe⟩:=hrel
  have HCU:=Lib.hid hcu
  have HBE:=Lib.hid hbe
  have HH:=Lib.hid h1
  clear hcu hbe h1
  by_cases hkn:k<n
  ·have hk1:1≤k:=by have:=HH.out;omega
   have hne:¬ n=k:=by omega
   go_wp2_with fail
   obtain⟨m,hm⟩:∃ m,m=Nat.min k (n-k):=⟨_,rfl⟩
   have hm1:1≤m:=by rw[hm];simp[Nat.min_def];split <;> omega
   have hm2:m≤n-k:=by rw[hm];simp[Nat.min_def];split <;> omega
   have hm3:m≤k:=by rw[hm];simp[Nat.min_def];split <;> omega
   have hwr:IntKind.i64.wrap ((k:Int)+(m:Int))=(k:Int)+(m:Int):=IntWalk.i64_in _ (by omega)
   have H1:=Lib.hid (show (List.replicate m (Value.int .i64 y)).length=Nat.min k (n-k) by simp[←hm])
   have HQ1:=Lib.hid (show 0<(List.replicate m (Value.int .i64 y)).length→(some (⟨w.heap.size,k,none⟩:Addr))=some ⟨w.heap.size,k,none⟩∧∃ ad,(some (⟨w.heap.size,0,none⟩:Addr))=some ad∧∀ j v,(List.replicate m (Value.int .i64 y))[j]?=some v→wr.drew.cell? (ad.add j)=some v from by
    intro _
    refine⟨rfl,_,rfl,fun j u hj=>?_⟩
    have hj1:=(List.getElem?_eq_some_iff.1 hj).1
    have hu:u=.int .i64 y:=(List.mem_replicate.1 (List.mem_of_getElem? hj)).2
    subst hu
    have hjk:j<k:=by simp at hj1;omega
    rw[Addr.add_lit,World.cell?_drew]
    unfold World.cell?
    rw[HCU.out]
    simp only[Option.isSome_none,Bool.false_eq_true,if_false,List.getElem?_toArray,Nat.zero_add]
    exact repCur_get hjk)
   have HQ2:=Lib.hid (show k+(List.replicate m (Value.int .i64 y)).length≤(repCur n k y).length from by rw[repCur_length hk];simp;omega)
   have HQ3:=Lib.hid (show ∀ v∈List.replicate m (Value.int .i64 y),v.oneCell'=true from by intro u hu;rw[(List.mem_replicate.1 hu).2];rfl)
   clear hm
   go_region_law (refine step_copy_splice rfl (.tmp 41) (.tmp 44) 25 25 rfl 3 Tryz.underlying25 hsz (some ⟨w.heap.size,k,none⟩) (some ⟨w.heap.size,0,none⟩) (n-k) (n-k) k n ?hd ?hs w.heap.size k (repCur n k y) 3 HCU.out (List.replicate m (.int .i64 y)) H1.out ?q1 ?q2 ?q3 w.heap.size w HBE.out.drew (Nat.le_refl _) ?_;(case hd=>simp[Act.eval,Act.put]);(case hs=>simp[Act.eval,Act.put]);(case q1=>exact HQ1.out);(case q2=>exact HQ2.out);(case q3=>exact HQ3.out);intro w4 hg4 hb4)
   have hg5:w4.heap[w.heap.size]?=some (.cells (repCur n (k+m) y).toArray 3 (0,0)):=by
    rw[hg4.out,repCur_splice (by omega)]
   have HG5:=Lib.hid hg5
   have HB5:=Lib.hid hb4
   clear hg4 hb4 hg5
   go_wp2
   go_roundg (n-(k+m))
   case measure=>omega
   case rel=>exact⟨k+m,by omega,by omega,by omega,by go_num,HG5.out,HB5.out⟩
  ·obtain rfl:n=k:=by omega
   go_wp2
   go_ret
   refine⟨_,rfl,Ev.of_below HI.out HBE.out,⟨?_,?_⟩⟩
   ·have:=HCU.out
    rw[repCur_full] at this
    refine⟨by simp,Or.inr ⟨_,n,_,by simp,Nat.le_refl _,this,by simp,by unfold maxLen;omega,by simp,by simp⟩⟩
   ·intro j hj
    obtain rfl:w.heap.size=j:=by simpa [Value.ownBlock] using hj
    exact HI.out.none_of_ge (Nat.le_refl _)
end
section
open Go.RowKit
set_option linter.unusedVariables false
theorem nth_getD {xs:List Int} {i:Nat} (h:i<xs.length) (d:Int):xs.getD i d=nth xs i:=by simp[nth,h]
theorem Ints.alone (w:World) (y:Int):Ints (w.alloc (.cells #[.int .i64 y] 3)) (.slice (some ⟨w.heap.size,0,none⟩) 1 1) [y]:=
 ⟨_,1,rfl,Nat.le_refl _,by simp[maxLen],fun i hi=>⟨w.heap.size,0,rfl,by
  obtain rfl:i=0:=by simpa using hi
  simp[nth]⟩⟩
set_option maxRecDepth 100000 in
set_option maxHeartbeats 1000000 in
theorem names_any (R:Reg) (w:World) (hI:Inv R w) (p:Value) (s:List Nat) (hp:PermAt R p s):
  Calls Tryz.prog 119 #[p] w (RetOwn R w (namesL s)):=by
 have hp':=hp
 obtain⟨b,rfl,hb⟩:=hp
 obtain⟨hS,hn,_⟩:=hI.permCells hb
 obtain⟨n,hl⟩:∃ n,s.length=n:=⟨_,rfl⟩
 have HL:=Lib.hid hl
 rw[hl] at hn
 have HP:=Lib.hid hp'
 have HI:=Lib.hid hI
 have HS:=Lib.hid hS
 have hI1:=Lib.hid (hI.alloc (.cells #[.int .i64 (-1)] 3))
 clear hI hb hS hp' hl
 go_enter Tryz.func119,Tryz.ntmps119
 go_wp2_with fail
 refine (len_any R _ hI1.out _ s HP.out).mono ?_
 rintro e w1 ⟨rfl,rfl⟩
 rw[HL.out]
 go_wp2_with fail
 refine (repeat_one R _ hI1.out _ (-1) (Ints.alone w (-1)) n hn).mono ?_
 rintro e w2 ⟨v,rfl,he2,ho2⟩
 have he2':=((Ev.refl HI.out).alloc (.cells #[.int .i64 (-1)] 3)).trans he2
 have ho2':OwnI R w.heap.size 3 w2 v (namesGo s 0).1:=by
  rw[namesGo_zero,HL.out]
  exact ho2.mono (by simp)
 have hlen:(namesGo s 0).1.length=n:=by rw[namesGo_length,HL.out]
 obtain⟨a,cap,rfl,_⟩:=ho2'.ints.open
 rw[hlen] at ho2' ⊢
 have HE2:=Lib.hid he2'
 have HO2:=Lib.hid ho2'
 clear he2 ho2 he2' ho2' hlen
 go_wp2_with fail
 go_loopg [4,14] n (fun g v4 v14 wr=>∃ k:Nat,k≤n∧n-k≤g∧v4=.int .i64 (((namesGo s k).2:Nat):Int)∧v14=.int .i64 (k:Int)∧Ev R w R wr∧OwnI R w.heap.size 3 wr (.slice a n cap) (namesGo s k).1)
 case atStart=>exact⟨0,Nat.zero_le _,by omega,rfl,rfl,HE2.out,HO2.out⟩
 case round=>
  obtain⟨k,hk,hg,rfl,rfl,he,ho⟩:=hrel
  have HE:=Lib.hid he
  have HO:=Lib.hid ho
  clear he ho
  have hlen:(namesGo s k).1.length=n:=by rw[namesGo_length,HL.out]
  have hcnt:(namesGo s k).2≤k:=namesGo_count s k
  have HN:=Lib.hid (namesGo_succ s k)
  obtain⟨N,C,hNC⟩:∃ N C,namesGo s k=(N,C):=⟨_,_,rfl⟩
  rw[hNC] at HO HN hlen hcnt ⊢
  simp only at HO hlen hcnt ⊢
  have HNC:=Lib.hid hNC
  have HLN:=Lib.hid hlen
  clear hNC hlen
  by_cases hkn:k<n
  ·obtain⟨gb,cap',e1,hgb,hgn,hc,hz⟩:=HO.out.head (i:=k) (by rw[HLN.out];exact hkn)
   rw[HLN.out] at e1
   cases e1
   by_cases hold:0≤nth N k
   ·go_wp2_with fail
    go_roundg (n-(k+1))
    case measure=>omega
    case rel=>
     have e2:namesGo s (k+1)=(N,C):=by rw[HN.out];exact nameStep_old (by rw[nth_getD (by rw[HLN.out];exact hkn)];exact hold)
     exact⟨k+1,by omega,by omega,by rw[e2],by go_num,HE.out,by rw[e2];exact HO.out⟩
   ·have e2:namesGo s (k+1)=((orbitL s k).foldl (fun l x=>l.set x (C:Int)) N,C+1):=by rw[HN.out];exact nameStep_new (by rw[nth_getD (by rw[HLN.out];exact hkn)];exact hold)
    have HE2:=Lib.hid e2
    clear e2
    go_wp2_with fail
    refine (orbit_in R wr HE.out.inv _ s HP.out k (by rw[HL.out];exact hkn)).mono ?_
    rintro e w3 ⟨vo,rfl,he3,ho3⟩
    have hsz3:=he3.size
    have hszr:=HE.out.size
    have hgblt:gb<wr.heap.size:=by
     have:=HO.out.lt gb (by rfl)
     omega
    have hof:FreeI R w3 vo (toI (orbitL s k)):=ho3.free
    have hob:∀ q,vo.ownBlock=some q→q≠gb:=fun q hq=>by
     have:=ho3.lt q hq
     omega
    have hlo:(orbitL s k).length≤n+1:=by have:=orbitL_length s k;rw[HL.out] at this;exact this
    have hin:∀ y∈orbitL s k,y<n:=by have:=orbitL_lt HS.out (i:=k) (by rw[HL.out];exact hkn);rw[HL.out] at this;exact this
    obtain⟨ao,co,rfl,_⟩:=hof.1.open
    obtain⟨L,hL⟩:∃ L,orbitL s k=L:=⟨_,rfl⟩
    rw[hL] at hof hlo hin HE2 hob ⊢
    rw[toI_length] at hof hob ⊢
    have he4:=HE.out.trans he3
    have ho4:OwnI R w.heap.size 3 w3 (.slice (some ⟨gb,0,none⟩) n cap) N:=HO.out.ev he3
    have HF:=Lib.hid hof
    have HB:=Lib.hid hob
    have HIN:=Lib.hid hin
    have HE4:=Lib.hid he4
    have HO4:=Lib.hid ho4
    obtain⟨m,hm⟩:∃ m,L.length=m:=⟨_,rfl⟩
    have HM:=Lib.hid hm
    rw[hm] at hlo HF HB ⊢
    clear he3 ho3 hof hob hin hL he4 ho4 hc hz hm hsz3
    go_wp2_with fail
    obtain⟨wo,hwo⟩:∃ wo:World,wo=w3:=⟨_,rfl⟩
    subst hwo
    go_loopg [26] m (fun g' v26 wq=>∃ j:Nat,j≤m∧m-j≤g'∧v26=.int .i64 (j:Int)∧Ev R w R wq∧OwnI R w.heap.size 3 wq (.slice (some ⟨gb,0,none⟩) n cap) ((L.take j).foldl (fun l x=>l.set x (C:Int)) N)∧FreeI R wq (.slice ao m co) (toI L))
    case atStart=>exact⟨0,Nat.zero_le _,by omega,rfl,HE4.out,HO4.out,HF.out⟩
    case round=>
     obtain⟨j,hj,hg',rfl,heq,hoq,hfq⟩:=hrel
     have HEQ:=Lib.hid heq
     have HOQ:=Lib.hid hoq
     have HFQ:=Lib.hid hfq
     clear heq hoq hfq
     by_cases hjm:j<m
     ·obtain⟨b',off,rfl,hcx⟩:=HFQ.out.1.cell (i:=j) (by rw[toI_length,HM.out];exact hjm)
      rw[toI_nth] at hcx
      have hjL:j<L.length:=by rw[HM.out];exact hjm
      have hy:at' L j<n:=by rw[at'_eq hjL];exact HIN.out _ (List.getElem_mem hjL)
      have hfold:=foldl_take_succ (fun (l:List Int) x=>l.set x (C:Int)) N L j hjL
      rw[←at'_eq hjL] at hfold
      have HFO:=Lib.hid hfold
      obtain⟨y,hye⟩:∃ y,at' L j=y:=⟨_,rfl⟩
      rw[hye] at hcx hy HFO
      obtain⟨M,hM⟩:∃ M,(L.take j).foldl (fun (l:List Int) x=>l.set x (C:Int)) N=M:=⟨_,rfl⟩
      rw[hM] at HOQ HFO
      have hMl:M.length=n:=by rw[←hM,foldl_set_length,HLN.out]
      obtain⟨gb',cap'',e1,_,_,hcy,hzy⟩:=HOQ.out.head (i:=y) (by rw[hMl];exact hy)
      rw[hMl] at e1
      cases e1
      have hst:=HOQ.out
      rw[←hMl] at hst
      have hst2:=hst.store y (by rw[hMl];exact hy) (C:Int)
      rw[hMl] at hst2
      have HST:=Lib.hid hst2
      clear hye hM hMl hfold hst hst2
      go_wp2_with fail
      go_roundg (m-(j+1))
      case measure=>omega
      case rel=>
       refine⟨j+1,by omega,by omega,by go_num,HEQ.out.setCell hgb hgn _,?_,HFQ.out.setCell (fun e=>?_) _⟩
       ·rw[HFO.out];exact HST.out
       ·exact HB.out gb e rfl
     ·obtain rfl:j=m:=by omega
      go_wp2_with fail
      go_roundg (n-(k+1))
      case measure=>omega
      case rel=>
       refine⟨k+1,by omega,by omega,?_,by go_num,HEQ.out,?_⟩
       ·rw[HE2.out];go_num
       ·rw[HE2.out]
        have:=HOQ.out
        rw[List.take_of_length_le (by rw[HM.out];exact Nat.le_refl _)] at this
        exact this
  ·obtain rfl:k=n:=by omega
   go_wp2_with fail
   go_ret
   refine⟨_,rfl,HE.out,?_⟩
   have:namesL s=N:=by unfold namesL;rw[HL.out,HNC.out]
   rw[this]
   exact HO.out
end
end Go.Proofs.YtgphnkkdmlohlaaGreatDoor
