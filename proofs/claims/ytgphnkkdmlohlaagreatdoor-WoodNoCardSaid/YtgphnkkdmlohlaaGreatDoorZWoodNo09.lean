/- the references of layer 5: Orbit, Names, Count, Inverse. -/
import Derived.Test.YtgphnkkdmlohlaaGreatDoorZWoodNo08
import Derived.Test.YtgphnkkdmlohlaaGreatDoorZWoodNo05
import Derived.Test.YtgphnkkdmlohlaaGreatDoorZWoodNo01
namespace Go.Proofs.YtgphnkkdmlohlaaGreatDoor
section
open Go.RowKit
set_option linter.unusedVariables false
theorem FreeI.open {R:Reg} {w:World} {v:Value} {xs:List Int} (h:FreeI R w v xs):∃ a cap,v=.slice a xs.length cap∧FreeI R w (.slice a xs.length cap) xs:=by
 obtain⟨a,cap,e,_⟩:=h.1.open
 subst e
 exact⟨a,cap,rfl,h⟩
theorem FreeI.at {R:Reg} {w:World} {a:Option Addr} {n cap:Nat} {s:List Nat} (h:FreeI R w (.slice a n cap) (toI s)) {i:Nat} (hi:i<s.length):
  ∃ b off,a=some ⟨b,off,none⟩∧w.cell? ⟨b,off+i,none⟩=some (.int .i64 ((at' s i:Nat):Int)):=by
 obtain⟨b,off,e,hc⟩:=h.1.cell (i:=i) (by rw[toI_length];exact hi)
 exact⟨b,off,e,by rw[hc,toI_nth]⟩
set_option maxHeartbeats 1000000 in
theorem rorbit_any (R:Reg) (w:World) (hI:Inv R w) (v:Value) (s:List Nat) (hv:FreeI R w v (toI s)) (hS:IsPerm s) (hn:s.length≤4194304) (i:Nat) (hi:i<s.length):
  Calls Tryz.prog 42 #[v,.int .i64 (i:Int)] w (RetOwn R w (toI (orbitL s i))):=by
 obtain⟨a,cap,rfl,hv⟩:=hv.open
 rw[toI_length] at hv ⊢
 obtain⟨b',off,rfl,hc⟩:=hv.at hi
 have hlt':=lt_of_cell hc
 have HI:=Lib.hid hI
 have HP:=Lib.hid hS
 have HV:=Lib.hid hv
 clear hI hS hv
 go_enter Tryz.func42,Tryz.ntmps42
 go_wp2_with fail
 clear hc
 go_loopg [5,6] s.length (fun g v x wr=>∃ (f:Nat) (l:List Nat) (y:Nat),f≤g∧x=.int .i64 (y:Int)∧y<s.length∧Reach s i f y∧l.length+f≤s.length+1∧l ++ orbitGo s i f y=orbitL s i∧Ev R w R wr∧OwnI R w.heap.size 3 wr v (toI l))
 case atStart=>
  refine⟨s.length,[i],at' s i,Nat.le_refl _,rfl,HP.out.lt hi,HP.out.reach hi,by simp;omega,rfl,(Ev.refl HI.out).alloc _,?_,?_⟩
  ·simpa [toI] using World.ownsRow_lit (base:=w.heap.size) (e:=3) (size:=1) w #[.int .i64 (i:Int)] 1 (Nat.le_refl _) (by simp[maxLen]) rfl
  ·intro k hk
   simp only[Value.ownBlock,Option.some.injEq] at hk
   exact HI.out.none_of_ge (by omega)
 case round=>
  obtain⟨f,l,y,hg,rfl,hy,hr,hlf,heq,he,ho⟩:=hrel
  have HR:=Lib.hid hr
  have HQ:=Lib.hid heq
  have HE:=Lib.hid he
  have HO:=Lib.hid ho
  clear hr heq he ho
  by_cases hyi:y=i
  ·subst hyi
   go_wp2
   go_ret
   refine⟨_,rfl,HE.out,?_⟩
   have e:=HQ.out
   rw[orbitGo_end,List.append_nil] at e
   rw[←e]
   exact HO.out
  ·obtain⟨f',hf,hr'⟩:=HR.out.next hyi
   have HR':=Lib.hid hr'
   have hi':¬ (y:Int)=(i:Int):=by omega
   have HLL:=Lib.hid (show l.length≤4194305 by omega)
   clear hr'
   go_wp2_with (at_builtin;refine wpList_app_int (R:=R) (B:=w.heap.size) rfl _ _ rfl (HO.out.alloc _) rfl ⟨wr.heap.size,0,none⟩ 1 (y:Int) rfl ?q1 ?q2 ?q3 ?q4 ?_)
   case q1=>simp
   case q2=>rw[toI_length];have:=HLL.out;omega
   case q3=>simp;have:=HE.out.size;omega
   case q4=>intro k hk;exact HE.out.inv.none_of_ge (by simp at hk;omega)
   intro v' w1 ho1 hg1 hs1
   have he1:=(HE.out.alloc (.cells #[.int .i64 (y:Int)] 3)).app (HO.out.alloc _) (Nat.le_refl _) hg1
   have HE1:=Lib.hid he1
   have HO1:=Lib.hid ho1
   obtain⟨b2,off2,e2,hc⟩:=(HV.out.ev HE1.out).at hy
   cases e2
   clear he1 ho1 hg1 hs1
   go_wp2
   go_roundg f'
   case measure=>omega
   case rel=>
    refine⟨f',l ++ [y],at' s y,Nat.le_refl _,rfl,HP.out.lt hy,HR'.out,by simp;omega,?_,HE1.out,?_⟩
    ·have e:=HQ.out
     rw[hf,orbitGo_next hyi] at e
     rw[←e]
     simp
    ·rw[toI_append];exact HO1.out
theorem rep_set {n k:Nat} {y:Int} (h:k<n):(List.replicate k y ++ List.replicate (n-k) (0:Int)).set k y=List.replicate (k+1) y ++ List.replicate (n-(k+1)) 0:=by
 rw[List.set_append_right _ _ (by simp),List.length_replicate,Nat.sub_self,show n-k=(n-(k+1))+1 by omega,List.replicate_succ,List.set_cons_zero,List.replicate_succ' (n:=k)]
 simp
set_option maxRecDepth 100000 in
set_option maxHeartbeats 2000000 in
theorem rnames_any (R:Reg) (w:World) (hI:Inv R w) (v:Value) (s:List Nat) (hv:FreeI R w v (toI s)) (hS:IsPerm s) (hn:s.length≤4194304):
  Calls Tryz.prog 25 #[v] w (RetOwn R w (namesL s)):=by
 obtain⟨a0,cap0,rfl,hv⟩:=hv.open
 rw[toI_length] at hv ⊢
 obtain⟨n,hl⟩:∃ n,s.length=n:=⟨_,rfl⟩
 have HL:=Lib.hid hl
 rw[hl] at hn hv ⊢
 have HI:=Lib.hid hI
 have HS:=Lib.hid hS
 have HV:=Lib.hid hv
 obtain⟨i0,hi,hz0,hz1,hz2⟩:=info_parts int_info
 clear hI hS hl hv
 go_enter Tryz.func25,Tryz.ntmps25
 go_wp2_with (refine wpList_make_full _ rfl _ _ 25 rfl w.heap.size 3 i0 (.int .i64 0) 1 Tryz.underlying25 hi hz0 hz1 .i64 .i64 (n:Int) (n:Int) n rfl rfl rfl rfl ?q1 ?q2 (Nat.le_refl _) ?_)
 case q1=>rw[hz2];omega
 case q2=>unfold maxLen;omega
 intro w1 ho1 hg1
 have hown:OwnI R w.heap.size 3 w1 (.slice (some ⟨w.heap.size,0,none⟩) n n) (List.replicate 0 (-1) ++ List.replicate (n-0) 0):=by
  simpa using OwnI.made HI.out ho1
 have he1:Ev R w R w1:=(Ev.refl HI.out).grown hg1 (by simp)
 have HO1:=Lib.hid hown
 have HE1:=Lib.hid he1
 clear ho1 hg1 hown he1
 go_wp2_with fail
 go_loopg [14] n (fun g v14 wr=>∃ k:Nat,k≤n∧n-k≤g∧v14=.int .i64 (k:Int)∧Ev R w R wr∧OwnI R w.heap.size 3 wr (.slice (some ⟨w.heap.size,0,none⟩) n n) (List.replicate k (-1) ++ List.replicate (n-k) 0))
 case atStart=>exact⟨0,Nat.zero_le _,by omega,rfl,HE1.out,HO1.out⟩
 case round=>
  obtain⟨k,hk,hg,rfl,he,ho⟩:=hrel
  have hlen:(List.replicate k (-1:Int) ++ List.replicate (n-k) 0).length=n:=by simp;omega
  have HLE:=Lib.hid hlen
  have HE:=Lib.hid he
  have HO:=Lib.hid ho
  clear he ho hlen
  by_cases hkn:k<n
  ·obtain⟨gb,cap',e1,hgb,hgn,hc,hz⟩:=HO.out.head (i:=k) (by rw[HLE.out];exact hkn)
   rw[HLE.out] at e1
   cases e1
   have hst2:=HO.out.put HLE.out k hkn (-1)
   rw[rep_set hkn] at hst2
   have HST:=Lib.hid hst2
   clear hst2
   go_wp2_with fail
   go_roundg (n-(k+1))
   case measure=>omega
   case rel=>exact⟨k+1,by omega,by omega,by go_num,HE.out.setCell (Nat.le_refl _) hgn _,HST.out⟩
  ·obtain rfl:k=n:=by omega
   have ho2:OwnI R w.heap.size 3 wr (.slice (some ⟨w.heap.size,0,none⟩) k k) (namesGo s 0).1:=by
    have:=HO.out
    rw[namesGo_zero,HL.out]
    simpa using this
   have HO2:=Lib.hid ho2
   have HE2:=HE
   clear ho2
   go_wp2_with fail
   obtain⟨wo,hwo⟩:∃ wo:World,wo=wr:=⟨_,rfl⟩
   subst hwo
   obtain⟨n,hnk⟩:∃ n,n=k:=⟨_,rfl⟩
   subst hnk
   obtain⟨a,ha⟩:∃ a:Option Addr,a=some ⟨w.heap.size,0,none⟩:=⟨_,rfl⟩
   obtain⟨cap,hcap⟩:∃ c:Nat,c=n:=⟨_,rfl⟩
   clear HO HO1 HE HE1 hk hg hkn HLE
   go_loopg [5,23] n (fun g v4 v14 wr=>∃ k:Nat,k≤n∧n-k≤g∧v4=.int .i64 (((namesGo s k).2:Nat):Int)∧v14=.int .i64 (k:Int)∧Ev R w R wr∧OwnI R w.heap.size 3 wr (.slice (some ⟨w.heap.size,0,none⟩) n n) (namesGo s k).1)
   case atStart=>exact⟨0,Nat.zero_le _,by omega,rfl,rfl,HE2.out,HO2.out⟩
   case round=>
    obtain⟨k,hk,hg,rfl,rfl,he,ho⟩:=hrel
    have HE:=Lib.hid he
    have HO:=Lib.hid ho
    clear he ho
    have hlen:(namesGo s k).1.length=n:=by rw[namesGo_length,HL.out]
    have hcnt:(namesGo s k).2≤k:=namesGo_count s k
    have HN:=Lib.hid (namesGo_succ s k)
    obtain⟨N,C,hNC⟩:∃ N C,namesGo s k=(N,C):=⟨_,_,rfl⟩
    rw[hNC] at HO HN hlen hcnt ⊢
    simp only at HO hlen hcnt ⊢
    have HNC:=Lib.hid hNC
    have HLN:=Lib.hid hlen
    clear hNC hlen
    by_cases hkn:k<n
    ·obtain⟨gb,cap',e1,hgb,hgn,hc,hz⟩:=HO.out.head (i:=k) (by rw[HLN.out];exact hkn)
     rw[HLN.out] at e1
     cases e1
     by_cases hold:0≤nth N k
     ·go_wp2_with fail
      go_roundg (n-(k+1))
      case measure=>omega
      case rel=>
       have e2:namesGo s (k+1)=(N,C):=by rw[HN.out];exact nameStep_old (by rw[nth_getD (by rw[HLN.out];exact hkn)];exact hold)
       exact⟨k+1,by omega,by omega,by rw[e2],by go_num,HE.out,by rw[e2];exact HO.out⟩
     ·have e2:namesGo s (k+1)=((orbitL s k).foldl (fun l x=>l.set x (C:Int)) N,C+1):=by rw[HN.out];exact nameStep_new (by rw[nth_getD (by rw[HLN.out];exact hkn)];exact hold)
      have HE2:=Lib.hid e2
      clear e2
      go_wp2_with fail
      refine (rorbit_any R wr HE.out.inv _ s (HV.out.ev HE.out) HS.out (by rw[HL.out];exact hn) k (by rw[HL.out];exact hkn)).mono ?_
      rintro e w3 ⟨vo,rfl,he3,ho3⟩
      have hsz3:=he3.size
      have hszr:=HE.out.size
      have hgblt:w.heap.size<wr.heap.size:=by
       have:=HO.out.lt w.heap.size (by rfl)
       omega
      have hof:FreeI R w3 vo (toI (orbitL s k)):=ho3.free
      have hob:∀ q,vo.ownBlock=some q→q≠w.heap.size:=fun q hq=>by
       have:=ho3.lt q hq
       omega
      have hlo:(orbitL s k).length≤n+1:=by have:=orbitL_length s k;rw[HL.out] at this;exact this
      have hin:∀ y∈orbitL s k,y<n:=by have:=orbitL_lt HS.out (i:=k) (by rw[HL.out];exact hkn);rw[HL.out] at this;exact this
      obtain⟨ao,co,rfl,_⟩:=hof.1.open
      obtain⟨L,hL⟩:∃ L,orbitL s k=L:=⟨_,rfl⟩
      rw[hL] at hof hlo hin HE2 hob ⊢
      rw[toI_length] at hof hob ⊢
      have he4:=HE.out.trans he3
      have ho4:OwnI R w.heap.size 3 w3 (.slice (some ⟨w.heap.size,0,none⟩) n n) N:=HO.out.ev he3
      have HF:=Lib.hid hof
      have HB:=Lib.hid hob
      have HIN:=Lib.hid hin
      have HE4:=Lib.hid he4
      have HO4:=Lib.hid ho4
      obtain⟨m,hm⟩:∃ m,L.length=m:=⟨_,rfl⟩
      have HM:=Lib.hid hm
      rw[hm] at hlo HF HB ⊢
      clear he3 ho3 hof hob hin hL he4 ho4 hc hz hm hsz3
      go_wp2_with fail
      obtain⟨wo,hwo⟩:∃ wo:World,wo=w3:=⟨_,rfl⟩
      subst hwo
      go_loopg [35] m (fun g' v26 wq=>∃ j:Nat,j≤m∧m-j≤g'∧v26=.int .i64 (j:Int)∧Ev R w R wq∧OwnI R w.heap.size 3 wq (.slice (some ⟨w.heap.size,0,none⟩) n n) ((L.take j).foldl (fun l x=>l.set x (C:Int)) N)∧FreeI R wq (.slice ao m co) (toI L))
      case atStart=>exact⟨0,Nat.zero_le _,by omega,rfl,HE4.out,HO4.out,HF.out⟩
      case round=>
       obtain⟨j,hj,hg',rfl,heq,hoq,hfq⟩:=hrel
       have HEQ:=Lib.hid heq
       have HOQ:=Lib.hid hoq
       have HFQ:=Lib.hid hfq
       clear heq hoq hfq
       by_cases hjm:j<m
       ·obtain⟨b',off,rfl,hcx⟩:=HFQ.out.1.cell (i:=j) (by rw[toI_length,HM.out];exact hjm)
        rw[toI_nth] at hcx
        have hjL:j<L.length:=by rw[HM.out];exact hjm
        have hy:at' L j<n:=by rw[at'_eq hjL];exact HIN.out _ (List.getElem_mem hjL)
        have hfold:=foldl_take_succ (fun (l:List Int) x=>l.set x (C:Int)) N L j hjL
        rw[←at'_eq hjL] at hfold
        have HFO:=Lib.hid hfold
        obtain⟨y,hye⟩:∃ y,at' L j=y:=⟨_,rfl⟩
        rw[hye] at hcx hy HFO
        obtain⟨M,hM⟩:∃ M,(L.take j).foldl (fun (l:List Int) x=>l.set x (C:Int)) N=M:=⟨_,rfl⟩
        rw[hM] at HOQ HFO
        have hMl:M.length=n:=by rw[←hM,foldl_set_length,HLN.out]
        obtain⟨gb',cap'',e1,_,_,hcy,hzy⟩:=HOQ.out.head (i:=y) (by rw[hMl];exact hy)
        rw[hMl] at e1
        cases e1
        have hst:=HOQ.out
        rw[←hMl] at hst
        have hst2:=hst.store y (by rw[hMl];exact hy) (C:Int)
        rw[hMl] at hst2
        have HST:=Lib.hid hst2
        clear hye hM hMl hfold hst hst2
        go_wp2_with fail
        go_roundg (m-(j+1))
        case measure=>omega
        case rel=>
         refine⟨j+1,by omega,by omega,by go_num,HEQ.out.setCell hgb hgn _,?_,HFQ.out.setCell (fun e=>?_) _⟩
         ·rw[HFO.out];exact HST.out
         ·exact HB.out _ e rfl
       ·obtain rfl:j=m:=by omega
        go_wp2_with fail
        go_roundg (n-(k+1))
        case measure=>omega
        case rel=>
         refine⟨k+1,by omega,by omega,?_,by go_num,HEQ.out,?_⟩
         ·rw[HE2.out];go_num
         ·rw[HE2.out]
          have:=HOQ.out
          rw[List.take_of_length_le (by rw[HM.out];exact Nat.le_refl _)] at this
          exact this
    ·obtain rfl:k=n:=by omega
     go_wp2_with fail
     go_ret
     refine⟨_,rfl,HE.out,?_⟩
     have:namesL s=N:=by unfold namesL;rw[HL.out,HNC.out]
     rw[this]
     exact HO.out
end
section
open Go.RowKit
set_option linter.unusedVariables false
def RetE (R:Reg) (w:World) (v:Value) (e:Ending) (w':World):Prop:=e=.returned v∧Ev R w R w'
set_option maxHeartbeats 1000000 in
theorem rcount_any (R:Reg) (w:World) (hI:Inv R w) (v:Value) (s:List Nat) (hv:FreeI R w v (toI s)) (hS:IsPerm s) (hn:s.length≤4194304):
  Calls Tryz.prog 60 #[v] w (RetE R w (.int .i64 ((sizesL s).length:Int))):=by
 have HN:=Lib.hid (rnames_any R w hI v s hv hS hn)
 have HS:=Lib.hid hS
 obtain⟨n,hl⟩:∃ n,s.length=n:=⟨_,rfl⟩
 have HL:=Lib.hid hl
 rw[hl] at hn
 clear hI hv hS hl
 go_enter Tryz.func60,Tryz.ntmps60
 go_wp2_with fail
 refine HN.out.mono ?_
 rintro e w1 ⟨v1,rfl,he1,ho1⟩
 have hf:=ho1.free
 obtain⟨a,cap,rfl,hf⟩:=hf.open
 rw[namesL_length,HL.out] at hf ⊢
 have HE:=Lib.hid he1
 have HF:=Lib.hid hf
 clear he1 ho1 hf
 go_wp2_with fail
 go_loopg [3,9] n (fun g v3 v9 wr=>∃ k:Nat,k≤n∧n-k≤g∧v3=.int .i64 (((namesGo s k).2:Nat):Int)∧v9=.int .i64 (k:Int)∧wr=w1)
 case atStart=>exact⟨0,Nat.zero_le _,by omega,rfl,rfl,rfl⟩
 case round=>
  obtain⟨k,hk,hg,rfl,rfl,rfl⟩:=hrel
  have hcnt:(namesGo s k).2≤k:=namesGo_count s k
  by_cases hkn:k<n
  ·have hnx:=names_next HS.out (k:=k) (by rw[HL.out];exact hkn)
   obtain⟨b,off,rfl,hc⟩:=HF.out.1.cell (i:=k) (by rw[namesL_length,HL.out];exact hkn)
   obtain⟨x,hx⟩:∃ x,nth (namesL s) k=x:=⟨_,rfl⟩
   obtain⟨C,hC⟩:∃ C,(namesGo s k).2=C:=⟨_,rfl⟩
   rw[hx] at hc hnx
   rw[hC] at hnx hcnt ⊢
   have HX:=Lib.hid hnx
   clear hnx hx hC
   by_cases hge:(C:Int)≤x
   ·obtain⟨hx1,hx2⟩:x=C∧(namesGo s (k+1)).2=C+1:=by rcases HX.out with h|h <;> omega
    subst hx1
    have H2:=Lib.hid hx2
    clear hx2
    go_wp2_with fail
    go_roundg (n-(k+1))
    case measure=>omega
    case rel=>exact⟨k+1,by omega,by omega,by rw[H2.out];go_num,by go_num,rfl⟩
   ·have hx2:(namesGo s (k+1)).2=C:=by rcases HX.out with h|h <;> omega
    have H2:=Lib.hid hx2
    clear hx2
    go_wp2_with fail
    go_roundg (n-(k+1))
    case measure=>omega
    case rel=>exact⟨k+1,by omega,by omega,by rw[H2.out],by go_num,rfl⟩
  ·obtain rfl:k=n:=by omega
   go_wp2_with fail
   go_ret
   refine⟨ret_int ?_,HE.out⟩
   show (((namesGo s k).2:Nat):Int)=_
   rw[←sizesGo_all,sizesGo_length HS.out _ (Nat.le_refl _),HL.out]
set_option maxRecDepth 100000 in
set_option maxHeartbeats 1000000 in
theorem rinverse_any (R:Reg) (w:World) (hI:Inv R w) (v:Value) (s:List Nat) (hv:FreeI R w v (toI s)) (hS:IsPerm s) (hn:s.length≤4194304):
  Calls Tryz.prog 61 #[v] w (RetOwn R w (toI (invL s))):=by
 obtain⟨a0,cap0,rfl,hv⟩:=hv.open
 rw[toI_length] at hv ⊢
 obtain⟨n,hl⟩:∃ n,s.length=n:=⟨_,rfl⟩
 have HL:=Lib.hid hl
 rw[hl] at hn hv ⊢
 have HI:=Lib.hid hI
 have HS:=Lib.hid hS
 have HV:=Lib.hid hv
 obtain⟨i0,hi,hz0,hz1,hz2⟩:=info_parts int_info
 clear hI hS hl hv
 go_enter Tryz.func61,Tryz.ntmps61
 go_wp2_with (refine wpList_make_full _ rfl _ _ 25 rfl w.heap.size 3 i0 (.int .i64 0) 1 Tryz.underlying25 hi hz0 hz1 .i64 .i64 (n:Int) (n:Int) n rfl rfl rfl rfl ?q1 ?q2 (Nat.le_refl _) ?_)
 case q1=>rw[hz2];omega
 case q2=>unfold maxLen;omega
 intro w1 ho1 hg1
 have hown:OwnI R w.heap.size 3 w1 (.slice (some ⟨w.heap.size,0,none⟩) n n) (toI (invGo s 0)):=by
  have:=OwnI.made HI.out ho1
  rw[show toI (invGo s 0)=List.replicate n 0 by simp[toI,invGo,HL.out]]
  exact this
 have he1:Ev R w R w1:=(Ev.refl HI.out).grown hg1 (by simp)
 have HO1:=Lib.hid hown
 have HE1:=Lib.hid he1
 clear ho1 hg1 hown he1
 go_wp2_with fail
 go_loopg [11] n (fun g v11 wr=>∃ k:Nat,k≤n∧n-k≤g∧v11=.int .i64 (k:Int)∧Ev R w R wr∧OwnI R w.heap.size 3 wr (.slice (some ⟨w.heap.size,0,none⟩) n n) (toI (invGo s k)))
 case atStart=>exact⟨0,Nat.zero_le _,by omega,rfl,HE1.out,HO1.out⟩
 case round=>
  obtain⟨k,hk,hg,rfl,he,ho⟩:=hrel
  have HE:=Lib.hid he
  have HO:=Lib.hid ho
  have HLE:=Lib.hid (show (toI (invGo s k)).length=n by rw[toI_length,invGo_length,HL.out])
  clear he ho
  by_cases hkn:k<n
  ·obtain⟨b',off,e1,hc⟩:=(HV.out.ev HE.out).at (i:=k) (by rw[HL.out];exact hkn)
   subst e1
   have hx:at' s k<n:=by have:=HS.out.lt (i:=k) (by rw[HL.out];exact hkn);rw[HL.out] at this;exact this
   obtain⟨x,hxe⟩:∃ x,at' s k=x:=⟨_,rfl⟩
   rw[hxe] at hx hc
   obtain⟨g,e2,hgb,hgn,hcx,hzx⟩:=HO.out.headAt HLE.out hx
   cases e2
   have hst:=HO.out.put HLE.out x hx (k:Int)
   have hs2:(toI (invGo s k)).set x (k:Int)=toI (invGo s (k+1)):=by rw[invGo_succ,toI_set,hxe]
   rw[hs2] at hst
   have HST:=Lib.hid hst
   clear hst hs2 hxe
   go_wp2_with fail
   go_roundg (n-(k+1))
   case measure=>omega
   case rel=>exact⟨k+1,by omega,by omega,by go_num,HE.out.setCell (Nat.le_refl _) hgn _,HST.out⟩
  ·obtain rfl:k=n:=by omega
   go_wp2_with fail
   go_ret
   refine⟨_,rfl,HE.out,?_⟩
   have:=HO.out
   rw[←HL.out] at this
   unfold invL
   rw[←HL.out]
   exact this
end
section
open Go.RowKit
set_option linter.unusedVariables false
def MapAt (R:Reg) (p:Value) (s:List Nat) (root lone:Int):Prop:=∃ b,p=.pointer (some ⟨b,0,none⟩)∧R b=some (.inr (.inr (s,root,lone)))
theorem Ev.map {R R1:Reg} {w w1:World} (he:Ev R w R1 w1) {p:Value} {s:List Nat} {r l:Int} (h:MapAt R p s r l):MapAt R1 p s r l:=
 let ⟨b,h1,h2⟩:=h;⟨b,h1,he.reg _ _ h2⟩
def Reg.del (R:Reg) (b:Nat):Reg:=fun k=>if k=b then none else R k
theorem Reg.del_other (R:Reg) {b k:Nat} (h:k≠b):R.del b k=R k:=by simp[Reg.del,h]
theorem Reg.del_same (R:Reg) (b:Nat):R.del b b=none:=by simp[Reg.del]
theorem FixI.del {R:Reg} {b:Nat} {s:List Nat} {r l:Int} (hb:R b=some (.inr (.inr (s,r,l)))) {v:Value} {xs:List Int} (h:FixI R v xs):FixI (R.del b) v xs:=by
 obtain⟨a,cap,h1,h2,h3,h4⟩:=h
 refine⟨a,cap,h1,h2,h3,fun i hi=>?_⟩
 obtain⟨b',off,c,T,f,e1,e2,e3⟩:=h4 i hi
 exact⟨b',off,c,T,f,e1,by rw[Reg.del_other R (fun e=>by rw[e,hb] at e2;cases e2)];exact e2,e3⟩
theorem Inv.del {R:Reg} {w w':World} (hI:Inv R w) {b:Nat} {s:List Nat} {r l:Int} (hb:R b=some (.inr (.inr (s,r,l)))) (hbt:But b w w'):Inv (R.del b) w':=by
 intro k x hx
 have hkb:k≠b:=fun e=>by rw[e,Reg.del_same] at hx;cases hx
 rw[Reg.del_other R hkb] at hx
 have h:=hI k x hx
 have hh:=hbt.block k h.lt hkb
 have hperm:∀ q t,R q=some (.inr (.inl t))→R.del b q=some (.inr (.inl t)):=fun q t e=>by
  rw[Reg.del_other R (fun e'=>by rw[e',hb] at e;cases e)];exact e
 have hnames:∀ t d u v,NamesOk R t d u v→NamesOk (R.del b) t d u v:=fun t d u v hn=>by
  rcases hn with hn|⟨a1,a2,a3⟩
  ·exact Or.inl hn
  ·exact Or.inr ⟨a1,a2.del hb,a3.del hb⟩
 rcases x with o|t|⟨t,root,lone⟩
 ·exact hh.trans h
 ·obtain⟨h1,h2,vto,T,d,vf,ho,h3,h4⟩:=h
  refine⟨h1,h2,vto,T,d,vf,hh.trans ho,h3.del hb,?_⟩
  rcases h4 with h4|⟨h4,h5⟩
  ·exact Or.inl h4
  ·exact Or.inr ⟨h4,h5.del hb⟩
 ·obtain⟨h1,h2,h2',bp,bq,T,d,e,v1,v2,u1,u2,ho,h3,h4,h5,h6⟩:=h
  exact⟨h1,h2,h2',bp,bq,T,d,e,v1,v2,u1,u2,hh.trans ho,hperm _ _ h3,hperm _ _ h4,hnames _ _ _ _ h5,hnames _ _ _ _ h6⟩
structure EvB (b:Nat) (R:Reg) (w w':World):Prop where
 os:w'.os=w.os
 tape:w'.tape=w.tape
 output:w'.output=w.output
 size:w.heap.size≤w'.heap.size
 block:∀ k,k<w.heap.size→R k=none→k≠b→w'.heap[k]?=w.heap[k]?
 inv:Inv R w'
theorem Ev.toB {R:Reg} {w w':World} (h:Ev R w R w') (b:Nat):EvB b R w w':=⟨h.os,h.tape,h.output,h.size,fun k hk hr _=>h.block k hk hr,h.inv⟩
theorem EvB.trans {b:Nat} {R:Reg} {w w1 w2:World} (h:EvB b R w w1) (k:EvB b R w1 w2):EvB b R w w2:=
 ⟨k.os.trans h.os,k.tape.trans h.tape,k.output.trans h.output,Nat.le_trans h.size k.size,fun i hi hr hb=>(k.block i (Nat.lt_of_lt_of_le hi h.size) hr hb).trans (h.block i hi hr hb),k.inv⟩
theorem EvB.set {b:Nat} {R:Reg} {w w1:World} (h:EvB b R w w1) (hb:R b=none) (o:Nat) (u:Value):EvB b R w (w1.setCell ⟨b,o,none⟩ u):=
 ⟨h.os,h.tape,h.output,by simpa using h.size,fun k hk hr hkb=>by rw[Below.heap_setCell _ _ _ _ hkb];exact h.block k hk hr hkb,h.inv.setCell hb u⟩
theorem EvB.own {b:Nat} {R:Reg} {w w1:World} (h:EvB b R w w1) {p:Addr} (hp:w.heap.size≤p.block) (hr:R p.block=none) (u:Value):EvB b R w (w1.setCell p u):=
 ⟨h.os,h.tape,h.output,by simpa using h.size,fun k hk hrk hkb=>by rw[Below.heap_setCell _ _ _ _ (by omega)];exact h.block k hk hrk hkb,h.inv.setCell hr u⟩
theorem EvB.alloc {b:Nat} {R:Reg} {w w1:World} (h:EvB b R w w1) (o:Obj):EvB b R w (w1.alloc o):=
 h.trans (((Ev.refl h.inv).alloc o).toB b)
theorem EvB.app {b B:Nat} {R:Reg} {w w1 w2:World} {v:Value} {xs:List Int} (h:EvB b R w w1) (hown:OwnI R B 3 w1 v xs) (hB:w.heap.size≤B) (hg:w1.grownBy w2 v.ownBlock):EvB b R w w2:=
 ⟨hg.os.trans h.os,hg.tape.trans h.tape,hg.output.trans h.output,Nat.le_trans h.size hg.size,
  fun k hk hr hkb=>(hg.block k (Nat.lt_of_lt_of_le hk h.size) (fun e=>by have:=hown.lt k e.symm;omega)).trans (h.block k hk hr hkb),
  fun k r hk=>(h.inv k r hk).mono (fun _ _ h=>h) (hg.block k (h.inv k r hk).lt (fun e=>by rw[hown.2 k e.symm] at hk;cases hk))⟩
def TellQ (R:Reg) (b off T:Nat) (cs:Array Value) (s:List Nat) (W w':World):Prop:=
 EvB b R W w'∧∃ v1 v2,w'.heap[b]?=some (.cells ((cs.setIfInBounds (off+4) v1).setIfInBounds (off+5) v2) T (0,0)) ∧
  OwnI R W.heap.size 3 w' v1 (namesL s)∧OwnI R W.heap.size 3 w' v2 (sizesL s)∧(∀ k,v1.ownBlock=some k→v2.ownBlock≠some k)
theorem sizeStep_new {xs:List Int}:sizeStep xs (xs.length:Int)=(xs ++ [0]).set xs.length 1:=by
 unfold sizeStep
 simp
theorem sizeStep_old {xs:List Int} {k:Nat} (h:k<xs.length):sizeStep xs (k:Int)=xs.set k (nth xs k+1):=by
 unfold sizeStep
 rw[if_neg (by omega)]
 simp[nth]
theorem cells_at {w:World} {b T:Nat} {cs:Array Value} (h:w.heap[b]?=some (.cells cs T (0,0))) (o:Nat):w.cell? ⟨b,o,none⟩=cs[o]?:=by simp[World.cell?,h]
theorem free_at {w:World} {b T:Nat} {cs:Array Value} (h:w.heap[b]?=some (.cells cs T (0,0))) (o:Nat):w.frozen? ⟨b,o,none⟩=false:=by simp[World.frozen?,h]
set_option maxRecDepth 100000 in
set_option maxHeartbeats 2000000 in
theorem tell_any (R:Reg) (b off T pb:Nat) (cs:Array Value) (s:List Nat) (W:World) (hI:Inv R W) (hRb:R b=none) (hp:R pb=some (.inr (.inl s))) (hn:s.length≤4194304) (hS:IsPerm s)
  (hb:W.heap[b]?=some (.cells cs T (0,0))) (h0:cs[off]?=some (.pointer (some ⟨pb,0,none⟩))) (h4:cs[off+4]?=some (.slice none 0 0)) (h5:cs[off+5]?=some (.slice none 0 0))
  (h1:cs[off+1]?=some (.int .u32 0)) (h2:cs[off+2]?=some (.int .i32 1)):
  Calls Tryz.prog 104 #[.pointer (some ⟨b,off,none⟩)] W (OnceKept b (off+1) (TellQ R b off T cs s W)):=by
 obtain⟨n,hl⟩:∃ n,s.length=n:=⟨_,rfl⟩
 have HL:=Lib.hid hl
 rw[hl] at hn
 have hblt:=lt_of_block hb
 have c0:W.cell? ⟨b,off,none⟩=some (.pointer (some ⟨pb,0,none⟩)):=by rw[cells_at hb,h0]
 have HB:=Lib.hid hb
 have HI:=Lib.hid hI
 have HR:=Lib.hid hRb
 have HP:=Lib.hid hp
 have HS:=Lib.hid hS
 have H1:=Lib.hid h1
 have H2:=Lib.hid h2
 have H4:=Lib.hid h4
 have H5:=Lib.hid h5
 have hs4:off+4<cs.size:=(Array.getElem?_eq_some_iff.1 h4).1
 have hs5:off+5<cs.size:=(Array.getElem?_eq_some_iff.1 h5).1
 clear hb hI hRb hp hS h0 h1 h2 h4 h5 hl
 go_enter Tryz.func104,Tryz.ntmps104
 go_wp2_with fail
 refine (names_any R W HI.out _ s ⟨pb,rfl,HP.out⟩).mono ?_
 rintro e w1 ⟨v1,rfl,he1,ho1⟩
 have hb1:w1.heap[b]?=some (.cells cs T (0,0)):=(he1.block b hblt HR.out).trans HB.out
 have c4:w1.cell? ⟨b,off+4,none⟩=some (.slice none 0 0):=by rw[cells_at hb1,H4.out]
 have z4:w1.frozen? ⟨b,off+4,none⟩=false:=free_at hb1 _
 have hlen:(namesL s).length=n:=by rw[namesL_length,HL.out]
 obtain⟨a1,cap1,rfl,_⟩:=ho1.ints.open
 rw[hlen] at ho1 ⊢
 have hb2:=heap_setCell_same w1 b (off+4) cs T (.slice a1 n cap1) hb1
 have hbo:∀ k,(Value.slice a1 n cap1).ownBlock=some k→k≠b:=fun k hk e=>by
  have:=ho1.lt k hk
  omega
 have ho2:OwnI R W.heap.size 3 (w1.setCell ⟨b,off+4,none⟩ (.slice a1 n cap1)) (.slice a1 n cap1) (namesL s):=ho1.setCell (fun e=>hbo _ e rfl) _
 have he2:=(he1.toB b).set HR.out (off+4) (.slice a1 n cap1)
 have HB2:=Lib.hid hb2
 have HO2:=Lib.hid ho2
 have HE2:=Lib.hid he2
 have HBO:=Lib.hid hbo
 have HLN:=Lib.hid hlen
 clear he1 ho1 hb1 c0 hb2 ho2 he2 hbo hlen
 have c4':(w1.setCell ⟨b,off+4,none⟩ (.slice a1 n cap1)).cell? ⟨b,off+4,none⟩=some (.slice a1 n cap1):=World.cell?_setCell_same _ _ _ c4
 go_wp2_with fail
 go_loopg [17] n (fun g v17 wr=>∃ (k:Nat) (v2:Value),k≤n∧n-k≤g∧v17=.int .i64 (k:Int)∧EvB b R W wr ∧
  wr.heap[b]?=some (.cells ((cs.setIfInBounds (off+4) (.slice a1 n cap1)).setIfInBounds (off+5) v2) T (0,0)) ∧
  OwnI R W.heap.size 3 wr (.slice a1 n cap1) (namesL s)∧OwnI R W.heap.size 3 wr v2 (sizesGo s k)∧(∀ q,(Value.slice a1 n cap1).ownBlock=some q→v2.ownBlock≠some q))
 case atStart=>
  refine⟨0,.slice none 0 0,Nat.zero_le _,by omega,rfl,HE2.out,?_,HO2.out,OwnI.nil R _ _ _,fun q _=>by simp[Value.ownBlock]⟩
  rw[HB2.out]
  have:(cs.setIfInBounds (off+4) (.slice a1 n cap1)).setIfInBounds (off+5) (.slice none 0 0)=cs.setIfInBounds (off+4) (.slice a1 n cap1):=by
   refine Array.ext (by simp) fun i h1 h2=>?_
   rw[Array.getElem_setIfInBounds]
   split
   ·rename_i e
    subst e
    have h5:=H5.out
    rw[Array.getElem_setIfInBounds,if_neg (by omega)]
    exact (Array.getElem?_eq_some_iff.1 h5).2.symm
   ·rfl
  rw[this]
 case round=>
  obtain⟨k,v2,hk,hg,rfl,he,hb,ho,ho2,hd⟩:=hrel
  have HE:=Lib.hid he
  have HBB:=Lib.hid hb
  have HO:=Lib.hid ho
  have HOS:=Lib.hid ho2
  have HD:=Lib.hid hd
  clear he hb ho ho2 hd c4 z4 c4'
  by_cases hkn:k<n
  ·have hks:k<s.length:=by rw[HL.out];exact hkn
   have hnx:=names_next HS.out hks
   have hln:=sizesGo_length HS.out k (by omega)
   have hst:=sizesGo_succ hks
   have hbd:=sizesGo_bound (s:=s) k (by omega)
   obtain⟨bx,ox,e1,hcx⟩:=HO.out.ints.cell (i:=k) (by rw[HLN.out];exact hkn)
   subst e1
   obtain⟨a2,cap2,rfl,_⟩:=HOS.out.ints.open
   obtain⟨x,hx⟩:∃ x,nth (namesL s) k=x:=⟨_,rfl⟩
   obtain⟨xs,hxs⟩:∃ xs,sizesGo s k=xs:=⟨_,rfl⟩
   rw[hx] at hcx hnx hst
   rw[hxs] at hst hln hbd HOS HBB HD
   rw[←hln] at hnx
   obtain⟨m,hm⟩:∃ m,xs.length=m:=⟨_,rfl⟩
   rw[hm] at hnx hln HOS HBB HD
   have hmk:m≤n:=by
    have:=namesGo_count s k
    omega
   have hb5:wr.cell? ⟨b,off+5,none⟩=some (.slice a2 m cap2):=by
    rw[cells_at HBB.out,Array.getElem?_setIfInBounds_self_of_lt (by simpa using hs5)]
   have hz5:wr.frozen? ⟨b,off+5,none⟩=false:=free_at HBB.out _
   have HM:=Lib.hid hm
   have HST:=Lib.hid hst
   have HBD:=Lib.hid hbd
   have HNX:=Lib.hid hnx
   clear hst hbd hnx hln hxs hm hx
   by_cases hold:x<m
   ·obtain⟨y,rfl⟩:=Int.eq_ofNat_of_zero_le (show 0≤x by rcases HNX.out with h|h <;> omega)
    have hym:y<m:=by omega
    have hne:¬ (y:Int)=(m:Int):=by omega
    obtain⟨g2,cap',e1,hg2,hgn2,hcy,hzy⟩:=HOS.out.head (i:=y) (by rw[HM.out];exact hym)
    rw[HM.out] at e1
    cases e1
    have hyb:=HBD.out y
    obtain⟨z,hz⟩:∃ z,nth xs y=z:=⟨_,rfl⟩
    rw[hz] at hcy hyb
    have HZ:=Lib.hid hz
    have hz1:0≤z:=hyb.1
    have hz2:z≤4194304:=by have:=hyb.2;omega
    clear hyb hz
    go_wp2_with fail
    go_roundg (n-(k+1))
    case measure=>omega
    case rel=>
     have hstore:=HOS.out
     rw[←HM.out] at hstore
     have hs2:=hstore.store y (by rw[HM.out];exact hym) (z+1)
     rw[HM.out] at hs2
     refine⟨k+1,_,by omega,by omega,by go_num,HE.out.own hg2 hgn2 _,?_,HO.out.setCell (fun e=>HD.out g2 e rfl) _,?_,HD.out⟩
     ·rw[Below.heap_setCell _ _ _ _ (by simp;omega)];exact HBB.out
     ·rw[HST.out,sizeStep_old (by rw[HM.out];exact hym),HZ.out]
      exact hs2
   ·obtain rfl:x=(m:Int):=by rcases HNX.out with h|h <;> omega
    have hbr:b<wr.heap.size:=lt_of_block HBB.out
    have hWr:=HE.out.size
    go_wp2_with (at_builtin;refine wpList_app_int (R:=R) (B:=W.heap.size) rfl _ _ rfl (xs:=xs) (HOS.out.alloc _) rfl ⟨wr.heap.size,0,none⟩ 1 0 rfl ?q1 ?q2 ?q3 ?q4 ?_)
    case q2=>have:=HM.out;omega
    case q3=>first|omega|(simp;omega)
    case q4=>intro q hq;exact HE.out.inv.none_of_ge (by first|omega|(simp at hq;omega))
    intro v3 w2 ho3 hg3 hs3
    have hlen3:(xs ++ [0]).length=m+1:=by simp[HM.out]
    obtain⟨g3,cap3,rfl,hg3',hgn3,hcm,hzm⟩:=ho3.head (i:=m) (by rw[hlen3];omega)
    rw[hlen3] at ho3 hs3 ⊢
    have hnm:nth (xs ++ [0]) m=0:=by simp[nth,←HM.out]
    rw[hnm] at hcm
    have he3:=((HE.out.alloc (.cells #[.int .i64 0] 3)).app (HOS.out.alloc _) (Nat.le_refl _) hg3)
    have hna:∀ q,(Value.slice (some ⟨bx,ox,none⟩) n cap1).ownBlock=some q→(Value.slice a2 m cap2).ownBlock≠some q:=HD.out
    have ho1':OwnI R W.heap.size 3 w2 (.slice (some ⟨bx,ox,none⟩) n cap1) (namesL s):=(HO.out.alloc _).kept hg3 (Or.inr fun e=>HD.out bx rfl e.symm)
    have hbb3:w2.heap[b]?=some (.cells ((cs.setIfInBounds (off+4) (.slice (some ⟨bx,ox,none⟩) n cap1)).setIfInBounds (off+5) (.slice a2 m cap2)) T (0,0)):=by
     rw[hg3.block b (by simp;omega) (fun e=>by have:=HOS.out.lt b e.symm;omega),Below.heap_alloc _ _ _ hbr]
     exact HBB.out
    have hb5':w2.cell? ⟨b,off+5,none⟩=some (.slice a2 m cap2):=by
     rw[cells_at hbb3,Array.getElem?_setIfInBounds_self_of_lt (by simpa using hs5)]
    have hz5':w2.frozen? ⟨b,off+5,none⟩=false:=free_at hbb3 _
    have hbb4:=heap_setCell_same w2 b (off+5) _ T (.slice (some ⟨g3,0,none⟩) (m+1) cap3) hbb3
    rw[Array.setIfInBounds_setIfInBounds] at hbb4
    have hb6:(w2.setCell ⟨b,off+5,none⟩ (.slice (some ⟨g3,0,none⟩) (m+1) cap3)).cell? ⟨b,off+5,none⟩=some (.slice (some ⟨g3,0,none⟩) (m+1) cap3):=World.cell?_setCell_same _ _ _ hb5'
    have hgb3:g3≠b:=by omega
    have hcm':(w2.setCell ⟨b,off+5,none⟩ (.slice (some ⟨g3,0,none⟩) (m+1) cap3)).cell? ⟨g3,m,none⟩=some (.int .i64 0):=by
     rw[World.cell?_setCell_other _ _ _ _ (fun e=>hgb3 (congrArg Addr.block e).symm)];exact hcm
    have hgx3:∀ q,(Value.slice (some ⟨bx,ox,none⟩) n cap1).ownBlock=some q→g3≠q:=fun q hq e=>by
     cases hq
     rcases hs3 g3 rfl with h|h
     ·rw[e] at h
      exact HD.out bx rfl h
     ·have:=HO.out.lt bx rfl
      have h':wr.heap.size≤g3:=by first|omega|(simp at h;omega)
      have:bx<wr.heap.size:=by simpa using this.2
      have:g3=bx:=e
      omega
    have HE3:=Lib.hid he3
    have HO1:=Lib.hid ho1'
    have HO3:=Lib.hid ho3
    have HB4:=Lib.hid hbb4
    have HGX:=Lib.hid hgx3
    have HL3:=Lib.hid hlen3
    clear he3 ho1' ho3 hbb3 hbb4 hgx3 hg3 hs3 hna hcm hnm hb5 hz5 hlen3
    go_wp2_with fail
    go_roundg (n-(k+1))
    case measure=>omega
    case rel=>
     have hstore:=(HO3.out.setCell (a:=⟨b,off+5,none⟩) (by simp[Value.ownBlock];omega) (.slice (some ⟨g3,0,none⟩) (m+1) cap3))
     rw[←HL3.out] at hstore
     have hs2:=hstore.store m (by rw[HL3.out];omega) 1
     rw[HL3.out] at hs2
     refine⟨k+1,.slice (some ⟨g3,0,none⟩) (m+1) cap3,by omega,by omega,by go_num,(HE3.out.set HR.out _ _).own hg3' hgn3 _,?_,(HO1.out.setCell (fun e=>?_) _).setCell (fun e=>HGX.out g3 e rfl) _,?_,fun q hq e=>?_⟩
     ·rw[Below.heap_setCell _ _ _ _ (by simp;omega)];exact HB4.out
     ·cases e
      have:=HO1.out.lt b rfl
      omega
     ·rw[HST.out]
      rw[show (m:Int)=(xs.length:Int) from by rw[HM.out],sizeStep_new,HM.out]
      exact hs2
     ·exact HGX.out q hq (Option.some.inj e)
  ·obtain rfl:k=n:=by omega
   go_wp2_with fail
   go_end0
   have hbf:=HBB.out
   have e1:sizesGo s k=sizesL s:=by rw[←HL.out];exact sizesGo_all s
   refine⟨rfl,⟨HE.out,_,v2,hbf,HO.out,by rw[←e1];exact HOS.out,HD.out⟩,?_,?_,free_at hbf _,free_at hbf _⟩
   ·rw[cells_at hbf,Array.getElem?_setIfInBounds_ne (by omega),Array.getElem?_setIfInBounds_ne (by omega)];exact H1.out
   ·rw[cells_at hbf,Array.getElem?_setIfInBounds_ne (by omega),Array.getElem?_setIfInBounds_ne (by omega)];exact H2.out
end
section
open Go.RowKit
set_option linter.unusedVariables false
theorem OwnI.fixR {R1:Reg} {w1:World} {B:Nat} {E:TypeId} {v:Value} {xs:List Int} (h:OwnI R1 B E w1 v xs):
  ∃ R2,FixI R2 v xs∧(∀ k r,R1 k=some r→R2 k=some r)∧(∀ k,R1 k=none→v.ownBlock≠some k→R2 k=none) ∧
   (∀ k r,R2 k=some r→R1 k=some r∨(v.ownBlock=some k∧∃ o,r=.inl o∧w1.heap[k]?=some o)):=by
 obtain⟨⟨h1,h2⟩,h3⟩:=h
 rcases h2 with ⟨h2,hn⟩|⟨g,cap,cur,hv,hg,hh,hn,hm,hs,ht⟩
 ·have:xs=[]:=List.length_eq_zero_iff.1 hn
  subst this
  exact⟨R1,⟨none,0,h2,Nat.le_refl _,by simp[maxLen],fun i hi=>by simp at hi⟩,fun _ _ h=>h,fun _ h _=>h,fun _ _ h=>Or.inl h⟩
 ·have hnn:=h3 g (by rw[hv];rfl)
  refine⟨R1.put g (.inl (.cells cur E (0,0))),⟨_,cap,hv,hn,hm,fun i hi=>?_⟩,Reg.put_keeps _ hnn,fun k hk hne=>?_,fun k r hr=>?_⟩
  ·refine⟨g,0,cur,E,(0,0),rfl,Reg.put_same _ _ _,?_⟩
   have hx:(xs.map (Value.int .i64))[i]?=some (.int .i64 (nth xs i)):=by simp[nth,hi]
   rw[←ht,List.getElem?_take] at hx
   split at hx
   ·simpa using hx
   ·cases hx
  ·unfold Reg.put
   rw[if_neg (fun e=>hne (by rw[hv,e];rfl))]
   exact hk
  ·unfold Reg.put at hr
   split at hr
   ·rename_i e
    cases hr
    subst e
    exact Or.inr ⟨by rw[hv];rfl,_,rfl,hh⟩
   ·exact Or.inl hr
def Half (s:List Nat) (off:Nat) (t:List Nat):Prop:=(off=0∧t=s)∨(off=6∧t=phiL s)
theorem Inv.halfCells {R:Reg} {w:World} (hI:Inv R w) {b:Nat} {s:List Nat} {root lone:Int} (h:R b=some (.inr (.inr (s,root,lone)))) {off:Nat} {t:List Nat} (ht:Half s off t):
  IsPerm t∧t.length=s.length∧s.length≤4194304∧∃ T cs pb d v1 v2,w.heap[b]?=some (.cells cs T (0,0))∧R pb=some (.inr (.inl t))∧cs[off]?=some (.pointer (some ⟨pb,0,none⟩)) ∧
   cs[off+1]?=some (.int .u32 d)∧cs[off+2]?=some (.int .i32 0)∧cs[off+3]?=some (.int .u32 0)∧cs[off+4]?=some v1∧cs[off+5]?=some v2∧NamesOk R t d v1 v2:=by
 obtain⟨h1,h2,h2',bp,bq,T,d,e,v1,v2,u1,u2,ho,h3,h4,h5,h6⟩:=hI _ _ h
 rcases ht with ⟨rfl,rfl⟩|⟨rfl,rfl⟩
 ·exact⟨h1,rfl,h2,T,_,bp,d,v1,v2,ho,h3,rfl,rfl,rfl,rfl,rfl,rfl,h5⟩
 ·obtain⟨h7,h8,_⟩:=hI _ _ h4
  exact⟨h7,by simp[phiL],h2,T,_,bq,e,u1,u2,ho,h4,rfl,rfl,rfl,rfl,rfl,rfl,h6⟩
set_option maxHeartbeats 400000 in
theorem tell_done {R:Reg} {w:World} (hI:Inv R w) {b:Nat} {s:List Nat} {root lone:Int} (hb:R b=some (.inr (.inr (s,root,lone)))) {off:Nat} {t:List Nat} (ht:Half s off t) {T:Nat} {cs:Array Value}
  (hw:w.heap[b]?=some (.cells cs T (0,0))) (h0:cs[off+1]?=some (.int .u32 0)) {w2:World}
  (hq:TellQ (R.del b) b off T (cs.setIfInBounds (off+2) (.int .i32 1)) t (w.setCell ⟨b,off+1+1,none⟩ (.int .i32 1)) w2):
  ∃ R' v1 v2,Ev R w R' ((w2.drew.setCell ⟨b,off+1,none⟩ (.int .u32 1)).setCell ⟨b,off+1+1,none⟩ (.int .i32 0))∧FixI R' v1 (namesL t)∧FixI R' v2 (sizesL t) ∧
   ((w2.drew.setCell ⟨b,off+1,none⟩ (.int .u32 1)).setCell ⟨b,off+1+1,none⟩ (.int .i32 0)).cell? ⟨b,off+4,none⟩=some v1 ∧
   ((w2.drew.setCell ⟨b,off+1,none⟩ (.int .u32 1)).setCell ⟨b,off+1+1,none⟩ (.int .i32 0)).cell? ⟨b,off+5,none⟩=some v2:=by
 obtain⟨he,v1,v2,hb2,ho1,ho2,hd⟩:=hq
 simp only[World.size_setCell] at ho1 ho2
 have hblt:=lt_of_block hw
 obtain⟨R1,hf1,hk1,hn1,hr1⟩:=ho1.fixR
 have ho2':OwnI R1 w.heap.size 3 w2 v2 (sizesL t):=⟨ho2.1,fun k hk=>hn1 k (ho2.2 k hk) (fun e=>hd k e hk)⟩
 obtain⟨R2,hf2,hk2,hn2,hr2⟩:=ho2'.fixR
 have hb1:R1 b=none:=hn1 b (Reg.del_same R b) (fun e=>by have:=ho1.lt b e;omega)
 have hbb:R2 b=none:=hn2 b hb1 (fun e=>by have:=ho2.lt b e;omega)
 have hkk:=Reg.put_keeps (b:=b) (.inr (.inr (s,root,lone))) hbb
 have hup:∀ k r,R.del b k=some r→R2.put b (.inr (.inr (s,root,lone))) k=some r:=fun k r h=>hkk k r (hk2 k r (hk1 k r h))
 have hnew:((w2.drew.setCell ⟨b,off+1,none⟩ (.int .u32 1)).setCell ⟨b,off+1+1,none⟩ (.int .i32 0)).heap[b]? =
   some (.cells ((((((cs.setIfInBounds (off+2) (.int .i32 1)).setIfInBounds (off+4) v1).setIfInBounds (off+5) v2).setIfInBounds (off+1) (.int .u32 1))).setIfInBounds (off+1+1) (.int .i32 0)) T (0,0)):=by
  have e1:=heap_setCell_same w2.drew b (off+1) _ T (.int .u32 1) hb2
  exact heap_setCell_same _ b (off+1+1) _ T (.int .i32 0) e1
 have hother:∀ k,k≠b→((w2.drew.setCell ⟨b,off+1,none⟩ (.int .u32 1)).setCell ⟨b,off+1+1,none⟩ (.int .i32 0)).heap[k]?=w2.heap[k]?:=fun k hk=>by
  rw[Below.heap_setCell _ _ _ _ hk,Below.heap_setCell _ _ _ _ hk];rfl
 have hsz:w.heap.size≤w2.heap.size:=by have:=he.size;simpa using this
 obtain⟨h1,h2,h2',bp,bq,T',d,e,x1,x2,u1,u2,ho,h3,h4,h5,h6⟩:=hI _ _ hb
 rw[hw] at ho
 cases ho
 have hnb:∀ q r,R q=some (.inr (.inl r))→R2.put b (.inr (.inr (s,root,lone))) q=some (.inr (.inl r)):=fun q r e=>by
  refine hup q _ ?_
  rw[Reg.del_other R (fun e'=>by rw[e',hb] at e;cases e)]
  exact e
 have hnames:∀ r d u v,NamesOk R r d u v→NamesOk (R2.put b (.inr (.inr (s,root,lone)))) r d u v:=fun r d u v hn=>by
  rcases hn with hn|⟨a1,a2,a3⟩
  ·exact Or.inl hn
  ·exact Or.inr ⟨a1,(a2.del hb).mono hup,(a3.del hb).mono hup⟩
 have hF1:FixI (R2.put b (.inr (.inr (s,root,lone)))) v1 (namesL t):=(hf1.mono hk2).mono hkk
 have hF2:FixI (R2.put b (.inr (.inr (s,root,lone)))) v2 (sizesL t):=hf2.mono hkk
 have hkind:KindOk (R2.put b (.inr (.inr (s,root,lone)))) ((w2.drew.setCell ⟨b,off+1,none⟩ (.int .u32 1)).setCell ⟨b,off+1+1,none⟩ (.int .i32 0)) b (.inr (.inr (s,root,lone))):=by
  rcases ht with ⟨rfl,rfl⟩|⟨rfl,rfl⟩
  ·exact⟨h1,h2,h2',bp,bq,T,1,e,v1,v2,u1,u2,hnew,hnb _ _ h3,hnb _ _ h4,Or.inr ⟨rfl,hF1,hF2⟩,hnames _ _ _ _ h6⟩
  ·exact⟨h1,h2,h2',bp,bq,T,d,1,x1,x2,v1,v2,hnew,hnb _ _ h3,hnb _ _ h4,hnames _ _ _ _ h5,Or.inr ⟨rfl,hF1,hF2⟩⟩
 refine⟨R2.put b (.inr (.inr (s,root,lone))),v1,v2,⟨he.os,he.tape,he.output,by simpa using hsz,fun k hk hr=>?_,fun k r hr=>?_,fun k hk hr=>?_,fun k x hx=>?_⟩,hF1,hF2,?_,?_⟩
 ·have hkb:k≠b:=fun e=>by rw[e,hb] at hr;cases hr
  rw[hother k hkb,he.block k (by simpa using hk) (by rw[Reg.del_other R hkb];exact hr) hkb,Below.heap_setCell _ _ _ _ hkb]
 ·by_cases hkb:k=b
  ·subst hkb
   rw[Reg.put_same]
   rw[hb] at hr
   exact hr
  ·exact hup k r (by rw[Reg.del_other R hkb];exact hr)
 ·have hkb:k≠b:=fun e=>by rw[e,hb] at hr;cases hr
  unfold Reg.put
  rw[if_neg hkb]
  exact hn2 k (hn1 k (by rw[Reg.del_other R hkb];exact hr) (fun e=>by have:=ho1.lt k e;omega)) (fun e=>by have:=ho2.lt k e;omega)
 ·by_cases hkb:k=b
  ·subst hkb
   rw[Reg.put_same] at hx
   cases hx
   exact hkind
  ·unfold Reg.put at hx
   rw[if_neg hkb] at hx
   rcases hr2 k x hx with h|⟨_,o,rfl,ho⟩
   ·rcases hr1 k x h with h|⟨_,o,rfl,ho⟩
    ·exact (he.inv k x h).mono hup (hother k hkb)
    ·exact (hother k hkb).trans ho
   ·exact (hother k hkb).trans ho
 ·rcases ht with ⟨rfl,rfl⟩|⟨rfl,rfl⟩ <;> simp[World.cell?,hnew]
 ·rcases ht with ⟨rfl,rfl⟩|⟨rfl,rfl⟩ <;> simp[World.cell?,hnew]
def Told (R:Reg) (w:World) (b off:Nat) (t:List Nat) (w':World):Prop:=
 ∃ R' a1 c1 a2 c2,Ev R w R' w'∧FixI R' (.slice a1 t.length c1) (namesL t)∧FixI R' (.slice a2 (sizesL t).length c2) (sizesL t) ∧
  w'.cell? ⟨b,off+4,none⟩=some (.slice a1 t.length c1)∧w'.cell? ⟨b,off+5,none⟩=some (.slice a2 (sizesL t).length c2)
def DoTold (R:Reg) (w:World) (b off:Nat) (t:List Nat) (e:Ending) (w':World):Prop:=e=.returned (.tuple #[])∧Told R w b off t w'
theorem Told.mk {R R':Reg} {w w':World} {b off:Nat} {t:List Nat} {v1 v2:Value} (he:Ev R w R' w') (h1:FixI R' v1 (namesL t)) (h2:FixI R' v2 (sizesL t))
  (c4:w'.cell? ⟨b,off+4,none⟩=some v1) (c5:w'.cell? ⟨b,off+5,none⟩=some v2):Told R w b off t w':=by
 obtain⟨a1,p1,rfl,_⟩:=id h1
 obtain⟨a2,p2,rfl,_⟩:=id h2
 rw[namesL_length] at h1 c4
 exact⟨R',a1,p1,a2,p2,he,h1,h2,c4,c5⟩
theorem do_told (R:Reg) (w:World) (hI:Inv R w) (b:Nat) (s:List Nat) (root lone:Int) (hb:R b=some (.inr (.inr (s,root,lone)))) (off:Nat) (t:List Nat) (ht:Half s off t):
  Calls Tryz.prog 103 #[.pointer (some ⟨b,off+1,none⟩),.func (.func 104) #[.pointer (some ⟨b,off,none⟩)] #[]] w (DoTold R w b off t):=by
 obtain⟨hT,hlen,hn,T,cs,pb,d,v1,v2,hw,hp,k0,k1,k2,k3,k4,k5,hd⟩:=hI.halfCells hb ht
 rcases hd with ⟨rfl,rfl,rfl⟩|⟨rfl,hf1,hf2⟩
 ·have hpb:pb≠b:=fun e=>by rw[e,hb] at hp;cases hp
  have hW:=heap_setCell_same w b (off+1+1) cs T (.int .i32 1) hw
  have hI':Inv (R.del b) (w.setCell ⟨b,off+1+1,none⟩ (.int .i32 1)):=hI.del hb ((But.refl b w).set _ _)
  have htell:=tell_any (R.del b) b off T pb (cs.setIfInBounds (off+2) (.int .i32 1)) t _ hI' (Reg.del_same R b) (by rw[Reg.del_other R hpb];exact hp) (by omega) hT hW
   (by rw[Array.getElem?_setIfInBounds_ne (by omega)];exact k0) (by rw[Array.getElem?_setIfInBounds_ne (by omega)];exact k4) (by rw[Array.getElem?_setIfInBounds_ne (by omega)];exact k5)
   (by rw[Array.getElem?_setIfInBounds_ne (by omega)];exact k1) (by rw[Array.getElem?_setIfInBounds_self_of_lt (Array.getElem?_eq_some_iff.1 k2).1])
  refine (do_tell b (off+1) (.pointer (some ⟨b,off,none⟩)) w (by rw[cells_at hw];exact k1) (by rw[cells_at hw];exact k2) (free_at hw _) (free_at hw _) _ htell).mono ?_
  rintro e w' ⟨rfl,w2,hq,rfl⟩
  obtain⟨R',v1,v2,he,h1,h2,c4,c5⟩:=tell_done hI hb ht hw k1 hq
  exact⟨rfl,Told.mk he h1 h2 c4 c5⟩
 ·refine (do_done ⟨b,off+1,none⟩ _ w (by rw[cells_at hw];exact k1)).mono ?_
  rintro e w' ⟨rfl,rfl⟩
  exact⟨rfl,Told.mk (Ev.refl hI) hf1 hf2 (by rw[cells_at hw];exact k4) (by rw[cells_at hw];exact k5)⟩
def nameI (t:List Nat) (i:Int):Int:=if 0≤i∧i<t.length then nth (namesL t) i.toNat else -1
theorem nameI_out {t:List Nat} {i:Int} (h:i<0∨(t.length:Int)≤i):nameI t i=-1:=by
 unfold nameI;rw[if_neg (by omega)]
theorem nameI_in {t:List Nat} {i:Nat} (h:i<t.length):nameI t (i:Int)=nth (namesL t) i:=by
 unfold nameI;rw[if_pos (by omega)];simp
set_option maxHeartbeats 400000 in
theorem name_any (R:Reg) (w:World) (hI:Inv R w) (b:Nat) (s:List Nat) (root lone:Int) (hb:R b=some (.inr (.inr (s,root,lone)))) (off:Nat) (t:List Nat) (ht:Half s off t) (i:Int):
  Calls Tryz.prog 86 #[.pointer (some ⟨b,off,none⟩),.int .i64 i] w (RetV R w (.int .i64 (nameI t i))):=by
 have HD:=Lib.hid (do_told R w hI b s root lone hb off t ht)
 obtain⟨hT,hlen,hn,_⟩:=hI.halfCells hb ht
 have hmf:=makeFunc_run
 clear hI hb ht hT
 go_enter Tryz.func86,Tryz.ntmps86
 go_wp2_with fail
 refine HD.out.mono ?_
 rintro e w1 ⟨rfl,R1,a1,c1,a2,c2,he,h1,h2,c4,c5⟩
 have HE:=Lib.hid he
 have H1:=Lib.hid h1
 clear he h1 h2
 by_cases h0:i<0
 ·have HA:=Lib.hid (nameI_out (t:=t) (Or.inl h0))
  go_wp2_with fail
  go_ret
  exact⟨ret_int HA.out.symm,R1,HE.out⟩
 ·by_cases h1:(t.length:Int)≤i
  ·have HA:=Lib.hid (nameI_out (t:=t) (Or.inr h1))
   go_wp2_with fail
   go_ret
   exact⟨ret_int HA.out.symm,R1,HE.out⟩
  ·obtain⟨k,rfl⟩:=Int.eq_ofNat_of_zero_le (show 0≤i by omega)
   have hk:k<t.length:=by omega
   have HA:=Lib.hid (nameI_in hk)
   have h2:decide (t.length≤k)=false:=by simp;omega
   have h3:¬ ((k:Int)<0):=by omega
   obtain⟨bx,ox,e1,hc⟩:=(H1.out.ints HE.out.inv).cell (i:=k) (by rw[namesL_length];exact hk)
   subst e1
   clear h0 h1
   go_wp2_with fail
   go_ret
   exact⟨ret_int HA.out.symm,R1,HE.out⟩
def CountQ (R:Reg) (w:World) (b off:Nat) (t:List Nat) (e:Ending) (w':World):Prop:=e=.returned (.int .i64 ((sizesL t).length:Int))∧Told R w b off t w'
theorem count_any (R:Reg) (w:World) (hI:Inv R w) (b:Nat) (s:List Nat) (root lone:Int) (hb:R b=some (.inr (.inr (s,root,lone)))) (off:Nat) (t:List Nat) (ht:Half s off t):
  Calls Tryz.prog 94 #[.pointer (some ⟨b,off,none⟩)] w (CountQ R w b off t):=by
 have HD:=Lib.hid (do_told R w hI b s root lone hb off t ht)
 have hmf:=makeFunc_run
 clear hI hb ht
 go_enter Tryz.func94,Tryz.ntmps94
 go_wp2_with fail
 refine HD.out.mono ?_
 rintro e w1 ⟨rfl,hq⟩
 have HQ:=Lib.hid hq
 obtain⟨R1,a1,c1,a2,c2,he,h1,h2,c4,c5⟩:=hq
 clear he h1 h2
 go_wp2_with fail
 go_ret
 exact⟨rfl,HQ.out⟩
end
end Go.Proofs.YtgphnkkdmlohlaaGreatDoor
