/- parquetryref08.Names. -/
import Derived.Test.YtgphnkkdmlohlaaGreatDoorZWoodNo15
import Derived.Test.YtgphnkkdmlohlaaGreatDoorZWoodNo06
import Derived.Deep.DeepCutAuto
import Derived.Deep.QuietTactic
import Derived.BigQuiet
import Derived.Test.YtgphnkkdmlohlaaGreatDoorZWoodNo16
namespace Go.Proofs.YtgphnkkdmlohlaaGreatDoor
section
open Go.RowKit
set_option linter.unusedVariables false
theorem OwnI.madeAt {R:Reg} {w1:World} {g n B:Nat} (hg:R g=none) (ho:w1.ownsRow B 3 1 (.slice (some ⟨g,0,none⟩) n n) n (madeCells #[.int .i64 0] n).toList):
  OwnI R B 3 w1 (.slice (some ⟨g,0,none⟩) n n) (List.replicate n 0):=by
 refine⟨?_,fun k hk=>?_⟩
 ·rw[toList_madeCells_one] at ho
  simpa using ho
 ·simp only[Value.ownBlock,Option.some.injEq] at hk
  rw[←hk];exact hg
theorem OwnI.drewN {R:Reg} {B:Nat} {E:TypeId} {w:World} {v:Value} {xs:List Int} (h:OwnI R B E w v xs) (q:Nat):OwnI R B E (w.drewN q) v xs:=h
def rangeTo (n k:Nat):List Nat:=List.range k ++ List.replicate (n-k) 0
theorem rangeTo_length {n k:Nat} (h:k≤n):(rangeTo n k).length=n:=by simp[rangeTo];omega
theorem rangeTo_set {n k:Nat} (h:k<n):(rangeTo n k).set k k=rangeTo n (k+1):=by
 unfold rangeTo
 rw[List.set_append_right _ _ (by simp),List.length_range,Nat.sub_self,show n-k=(n-(k+1))+1 by omega,List.replicate_succ,List.set_cons_zero,List.range_succ,List.append_assoc]
 rfl
def RInv (s:List Nat) (L0 L:List Nat) (ch:Bool) (d:Nat) (P:Prop):Prop:=
 LInv s L∧(ch=true→sumL L+1≤sumL L0)∧(ch=false→L=L0∧(∀ e,e<d→at' L (at' s e)=at' L e∧at' L (e ^^^ 1)=at' L e)∧P)
set_option maxRecDepth 100000 in
set_option maxHeartbeats 4000000 in
theorem r8names_any (R:Reg) (w:World) (hI:Inv R w) (v:Value) (s:List Nat) (root lone:Int) (hv:FreeI R w v (toI s)) (hS:IsPerm s) (hn:s.length≤131073) (he:s.length % 2=0):
  Calls Tryz.prog 87 #[refV v root lone] w (RetOwn R w (partsL s)):=by
 obtain⟨a0,cap0,rfl,hv⟩:=hv.open
 rw[toI_length] at hv ⊢
 obtain⟨n,hl⟩:∃ n,s.length=n:=⟨_,rfl⟩
 have HLast:=Lib.hid (fun (L:List Nat) (h:LInv s L) (hc:LClosed s L) d (hd:d<s.length)=>h.last hS he hc hd)
 have HCnt:=Lib.hid (fun k (hk:k≤s.length)=>(partsL_ord hS he).cnt_le hk)
 have HPL:=Lib.hid (partsL_length hS he)
 have HBd:=Lib.hid (fun d (hd:d<s.length)=>partsL_lt hS he hd)
 have HPN:=Lib.hid (partsN_le hS he)
 have HXL:=Lib.hid (fun x (hx:x<n)=>xor_one_lt (n:=n) (by omega) hx)
 have HSL:=Lib.hid (fun x (hx:x<n)=>(by have:=hS.lt (i:=x) (by omega);omega:at' s x<n))
 have HCs:=Lib.hid (fun x (hx:x<s.length)=>Con.step hS hx)
 have HCm:=Lib.hid (fun x (hx:x<s.length)=>Con.mate hS he hx)
 have HSt:=Lib.hid (LInv.start hS)
 have HL:=Lib.hid hl
 rw[hl] at hn he hv ⊢
 have HI:=Lib.hid hI
 have HV:=Lib.hid hv
 have HS:=Lib.hid hS
 have HMT:=Lib.hid rmate_any
 obtain⟨i0,hi,hz0,hz1,hz2⟩:=info_parts int_info
 clear hI hl hv hS
 unfold refV
 go_enter Tryz.func87,Tryz.ntmps87
 go_wp2_with (refine wpList_make_full _ rfl _ _ 25 rfl w.heap.size 3 i0 (.int .i64 0) 1 Tryz.underlying25 hi hz0 hz1 .i64 .i64 (n:Int) (n:Int) n rfl rfl rfl rfl ?q1 ?q2 (by simp) ?_)
 case q1=>rw[hz2];omega
 case q2=>unfold maxLen;omega
 intro w1 ho1 hg1
 have he0:Ev R w R (w.alloc (.cells #[.slice a0 n cap0,.int .i64 root,.int .i64 lone] 27)):=(Ev.refl HI.out).alloc _
 have hgn:R (w.heap.size+1)=none:=HI.out.none_of_ge (by omega)
 have hown:OwnI R (w.heap.size+1) 3 w1 (.slice (some ⟨w.heap.size+1,0,none⟩) n n) (toI (rangeTo n 0)):=by
  have:=OwnI.madeAt (R:=R) (g:=w.heap.size+1) hgn (by simpa using ho1)
  rw[show toI (rangeTo n 0)=List.replicate n 0 by simp[toI,rangeTo]]
  refine⟨⟨this.1.1,?_⟩,this.2⟩
  rcases this.1.2 with h|⟨g,cap,cur,hv,hg,r⟩
  ·exact Or.inl h
  ·refine Or.inr ⟨g,cap,cur,hv,?_,r⟩
   injection hv with e
   injection e with e
   injection e with e
   omega
 obtain⟨w0,hw0⟩:∃ w0,w0=w.alloc (.cells #[.slice a0 n cap0,.int .i64 root,.int .i64 lone] 27):=⟨_,rfl⟩
 rw[←hw0] at he0 hg1
 have hsz0:w0.heap.size=w.heap.size+1:=by rw[hw0];simp
 have he1:Ev R w0 R w1:=(Ev.refl he0.inv).grown hg1 (by simp)
 have HO1:=Lib.hid hown
 have HE0:=Lib.hid he0
 have HE1:=Lib.hid he1
 have hcell:∀ w',Ev R w0 R w'→w'.cell? ⟨w.heap.size,0,none⟩=some (.slice a0 n cap0):=fun w' h=>by
  rw[h.cell (by omega) (HI.out.none_of_ge (Nat.le_refl _)),hw0]
  simp
 have HCL:=Lib.hid hcell
 clear ho1 hg1 hown he1 he0 hcell hw0
 go_wp2_with fail
 obtain⟨b,hb⟩:∃ b,w.heap.size+1=b:=⟨_,rfl⟩
 rw[hb] at HO1 hgn hsz0 ⊢
 have hbw:w.heap.size<b:=by omega
 have hRb:=hgn
 have HSZ:=Lib.hid hsz0
 clear hb hgn hsz0
 go_loopg [19] n (fun g v19 wr=>∃ k:Nat,k≤n∧n-k≤g∧v19=.int .i64 (k:Int)∧Ev R w0 R wr∧OwnI R b 3 wr (.slice (some ⟨b,0,none⟩) n n) (toI (rangeTo n k)))
 case atStart=>exact⟨0,Nat.zero_le _,by omega,rfl,HE1.out,HO1.out⟩
 case round=>
  obtain⟨k,hk,hg,rfl,he1,ho⟩:=hrel
  have HLE:=Lib.hid (show (toI (rangeTo n k)).length=n by rw[toI_length,rangeTo_length hk])
  have HE:=Lib.hid he1
  have HO:=Lib.hid ho
  clear he1 ho
  by_cases hkn:k<n
  ·obtain⟨gb,e1,_,_,hc,hz⟩:=HO.out.headAt HLE.out (i:=k) hkn
   cases e1
   have hst:=HO.out.put HLE.out k hkn (k:Int)
   rw[←toI_set,rangeTo_set hkn] at hst
   have HST:=Lib.hid hst
   clear hst
   go_wp2_with fail
   go_roundg (n-(k+1))
   case measure=>omega
   case rel=>exact⟨k+1,by omega,by omega,by go_num,HE.out.setCell (Nat.le_of_eq HSZ.out) hRb _,HST.out⟩
  ·obtain rfl:k=n:=by omega
   have hL0:rangeTo k k=List.range k:=by simp[rangeTo]
   rw[hL0] at HO HLE
   obtain⟨wj,hwj⟩:∃ wj:World,wj=wr:=⟨_,rfl⟩
   subst hwj
   obtain⟨n,hnj⟩:∃ n,n=k:=⟨_,rfl⟩
   subst hnj
   have HLS:Hid (LInv s (List.range n)):=Lib.hid (by rw[←HL.out];exact HSt.out)
   clear hL0 hkn hg hk
   go_wp2_with fail
   go_loopg [5] (sumL (List.range n)+1) (fun g v5 wr=>∃ (L:List Nat) (ch:Bool),v5=.bool ch∧Ev R w0 R wr∧OwnI R b 3 wr (.slice (some ⟨b,0,none⟩) n n) (toI L)∧LInv s L∧(ch=true→sumL L+1≤g)∧(ch=false→LClosed s L))
   case atStart=>exact⟨_,true,rfl,HE.out,HO.out,HLS.out,fun _=>Nat.le_refl _,fun h=>by cases h⟩
   case round=>
    obtain⟨L0,ch,rfl,he1,ho,hli,hch1,hch2⟩:=hrel
    cases ch with
    | true=>
     have hg1:=hch1 rfl
     have HLI:=Lib.hid hli
     have HEa:=Lib.hid he1
     have HOa:=Lib.hid ho
     clear he1 ho hli hch1 hch2
     obtain⟨g1,rfl⟩:∃ g1,gk=g1+1:=⟨gk-1,by omega⟩
     go_wp2_with fail
     go_loopg [5,30] n (fun g v5 v30 wr=>∃ (L:List Nat) (ch:Bool) (d:Nat),d≤n∧n-d≤g∧v5=.bool ch∧v30=.int .i64 (d:Int)∧Ev R w0 R wr∧OwnI R b 3 wr (.slice (some ⟨b,0,none⟩) n n) (toI L)∧RInv s L0 L ch d True)
     case atStart=>exact⟨L0,false,0,Nat.zero_le _,by omega,rfl,rfl,HEa.out,HOa.out,HLI.out,fun h=>(by cases h),fun _=>⟨rfl,fun e he=>absurd he (Nat.not_lt_zero _),trivial⟩⟩
     case round=>
      obtain⟨L,ch,d,hd,hg2,rfl,rfl,he1,ho,hri⟩:=hrel
      have HEb:=Lib.hid he1
      have HOb:=Lib.hid ho
      have HRI:=Lib.hid hri
      clear he1 ho hri
      by_cases hdn:d<n
      ·go_wp2_with fail
       have c0:=HCL.out wr HEb.out
       obtain⟨bs,os,e1,hcs⟩:=(HV.out.ev (HE0.out.trans HEb.out)).at (i:=d) (by rw[HL.out];exact hdn)
       subst e1
       have HMd:=Lib.hid (HMT.out wr.drew d (by omega))
       have hy1:=HSL.out d hdn
       have hy2:=HXL.out d hdn
       have HC1:=Lib.hid (HCs.out d (by rw[HL.out];exact hdn))
       have HC2:=Lib.hid (HCm.out d (by rw[HL.out];exact hdn))
       obtain⟨y1,hy1e⟩:∃ y,at' s d=y:=⟨_,rfl⟩
       obtain⟨y2,hy2e⟩:∃ y,d ^^^ 1=y:=⟨_,rfl⟩
       rw[hy1e] at hy1 hcs HC1
       rw[hy2e] at hy2 HMd HC2
       have HY1:=Lib.hid hy1e
       have HY2:=Lib.hid hy2e
       have hltb:b<wr.heap.size:=by have:=HOb.out.lt b rfl;exact this.2
       clear hy1e hy2e
       go_cut [40,41,42] (fun s40 s41 s42 wx=>∃ g:Nat,b<g∧s40=.slice (some ⟨g,0,none⟩) 2 2∧s41=.int .i64 2∧s42=.int .i64 0∧Ev R w0 R wx∧OwnI R b 3 wx (.slice (some ⟨b,0,none⟩) n n) (toI L)∧R g=none∧wx.cell? ⟨g,0,none⟩=some (.int .i64 (y1:Int))∧wx.cell? ⟨g,1,none⟩=some (.int .i64 (y2:Int)))
       case first=>
        go_region_with (go_at_call 9;refine HMd.out.mono ?_;rintro e w' ⟨rfl,rfl⟩)
        all_goals (go_wp2_with fail;go_meet)
        all_goals exact⟨wr.heap.size,hltb,rfl,rfl,rfl,(HEb.out.alloc _).drew,(HOb.out.alloc _).drew,HEb.out.inv.none_of_ge (Nat.le_refl _),by simp,by simp⟩
       case rest=>
        obtain⟨gq,hgq,rfl,rfl,rfl,he,ho,hgn,hc1,hc2⟩:=hcut
        have HEc:=Lib.hid he
        have HOc:=Lib.hid ho
        obtain⟨ys,hys⟩:∃ ys:Nat→Nat,(ys 0=y1∧ys 1=y2):=⟨fun i=>if i=0 then y1 else y2,by simp,by simp⟩
        have hcg:∀ i,i<2→wc.cell? ⟨gq,i,none⟩=some (.int .i64 ((ys i:Nat):Int)):=fun i hi=>by
         rcases (show i=0∨i=1 by omega) with rfl|rfl
         ·rw[hys.1];exact hc1
         ·rw[hys.2];exact hc2
        have hyl:∀ i,i<2→ys i<n∧Con s (ys i) d:=fun i hi=>by
         have hp:=Con.per HS.out
         rcases (show i=0∨i=1 by omega) with rfl|rfl
         ·rw[hys.1];exact⟨hy1,hp.symm HC1.out⟩
         ·rw[hys.2];exact⟨hy2,hp.symm HC2.out⟩
        have HYS:=Lib.hid hys
        have HCG:=Lib.hid hcg
        have HYL:=Lib.hid hyl
        clear he ho hys hcg hyl hc1 hc2 c0 hcs
        go_wp2_with fail
        go_loopg [5,42] 2 (fun g v5 v42 wr=>∃ (L':List Nat) (ch':Bool) (i:Nat),i≤2∧2-i≤g∧v5=.bool ch'∧v42=.int .i64 (i:Int)∧Ev R w0 R wr∧OwnI R b 3 wr (.slice (some ⟨b,0,none⟩) n n) (toI L')∧(∀ i,i<2→wr.cell? ⟨gq,i,none⟩=some (.int .i64 ((ys i:Nat):Int)))∧RInv s L0 L' ch' d (∀ k,k<i→at' L' (ys k)=at' L' d))
        case atStart=>
         obtain⟨r1,r2,r3⟩:=HRI.out
         exact⟨L,ch,0,by omega,by omega,rfl,rfl,HEc.out,HOc.out,HCG.out,r1,r2,fun h=>⟨(r3 h).1,(r3 h).2.1,fun k hk=>absurd hk (Nat.not_lt_zero _)⟩⟩
        case round=>
         obtain⟨L',ch',i,hi,hg3,rfl,rfl,he,ho,hcg,hri⟩:=hrel
         have HEd:=Lib.hid he
         have HOd:=Lib.hid ho
         have HRd:=Lib.hid hri
         have HCd:=Lib.hid hcg
         clear he ho hri hcg
         by_cases hi2:i<2
         ·have hcx:=HCd.out i hi2
          obtain⟨hyl,hycon⟩:=HYL.out i hi2
          obtain⟨x,hx⟩:∃ x,ys i=x:=⟨_,rfl⟩
          rw[hx] at hcx hyl hycon
          have HX:=Lib.hid hx
          have HLn:Hid ((toI L').length=n):=Lib.hid (by rw[toI_length,HRd.out.1.len,HL.out])
          obtain⟨_,e1,_,_,hcA,hzA⟩:=HOd.out.headAt HLn.out (i:=x) hyl
          cases e1
          obtain⟨_,e1,_,_,hcB,hzB⟩:=HOd.out.headAt HLn.out (i:=d) hdn
          cases e1
          rw[toI_nth] at hcA hcB
          obtain⟨lx,hlx⟩:∃ l,at' L' x=l:=⟨_,rfl⟩
          obtain⟨ld,hld⟩:∃ l,at' L' d=l:=⟨_,rfl⟩
          rw[hlx] at hcA
          rw[hld] at hcB
          have HLX:=Lib.hid hlx
          have HLD:=Lib.hid hld
          have HYC:=Lib.hid hycon
          clear hx hlx hld hycon
          rcases Nat.lt_trichotomy lx ld with hcmp|hcmp|hcmp
          ·have hxd:x≠d:=fun e=>by subst e;have:=HLX.out;have:=HLD.out;omega
           have hdx:d≠x:=fun e=>hxd e.symm
           have hnb:b≠gq:=by omega
           have HSK:=Lib.hid (LInv.sink HS.out HRd.out.1 (d:=d) (x:=x) (by rw[HL.out];exact hdn) (by rw[HL.out];exact hyl) HYC.out (by rw[HLX.out,HLD.out];exact hcmp))
           rw[HLX.out] at HSK
           go_wp2_with fail
           go_quiet (fail)
           go_wp2_with fail
           go_quiet (fail)
           go_wp2_with fail
           go_roundg (2-(i+1))
           case measure=>omega
           case rel=>
            have hse:=fun q q'=>((HEd.out.drewN q).setCell (p:=⟨b,d,none⟩) (Nat.le_of_eq HSZ.out) hRb (.int .i64 (lx:Int))).drewN q'
            have hst:=fun q q'=>((HOd.out.drewN q).put HLn.out d hdn (lx:Int)).drewN q'
            rw[←toI_set] at hst
            refine⟨L'.set d lx,true,i+1,by omega,by omega,rfl,by go_num,hse _ _,hst _ _,fun j hj=>?_,HSK.out.1,fun _=>?_,fun h=>by cases h⟩
            ·have:=HCd.out j hj
             simpa [World.cell?_setCell_other,hnb] using this
            ·have h1:=HSK.out.2
             cases ch' with
             | true=>have:=HRd.out.2.1 rfl;omega
             | false=>rw[(HRd.out.2.2 rfl).1] at h1 ⊢;exact h1
          ·subst hcmp
           go_wp2_with fail
           go_quiet (fail)
           go_wp2_with fail
           go_quiet (fail)
           go_wp2_with fail
           go_roundg (2-(i+1))
           case measure=>omega
           case rel=>
            obtain⟨r1,r2,r3⟩:=HRd.out
            refine⟨L',ch',i+1,by omega,by omega,rfl,by go_num,HEd.out.drewN _,HOd.out.drewN _,HCd.out,r1,r2,fun h=>⟨(r3 h).1,(r3 h).2.1,fun k hk=>?_⟩⟩
            by_cases e:k=i
            ·subst e;rw[HX.out,HLX.out,HLD.out]
            ·exact (r3 h).2.2 k (by omega)
          ·have hxd:x≠d:=fun e=>by subst e;have:=HLX.out;have:=HLD.out;omega
           have hdx:d≠x:=fun e=>hxd e.symm
           have hnb:b≠gq:=by omega
           have HSK:=Lib.hid (LInv.sink HS.out HRd.out.1 (d:=x) (x:=d) (by rw[HL.out];exact hyl) (by rw[HL.out];exact hdn) ((Con.per HS.out).symm HYC.out) (by rw[HLX.out,HLD.out];exact hcmp))
           rw[HLD.out] at HSK
           go_wp2_with fail
           go_quiet (fail)
           go_wp2_with fail
           go_quiet (fail)
           go_wp2_with fail
           go_roundg (2-(i+1))
           case measure=>omega
           case rel=>
            have hse:=fun q=>((HEd.out.drewN q).setCell (p:=⟨b,x,none⟩) (Nat.le_of_eq HSZ.out) hRb (.int .i64 (ld:Int)))
            have hst:=fun q=>((HOd.out.drewN q).put HLn.out x hyl (ld:Int))
            rw[←toI_set] at hst
            refine⟨L'.set x ld,true,i+1,by omega,by omega,rfl,by go_num,hse _,hst _,fun j hj=>?_,HSK.out.1,fun _=>?_,fun h=>by cases h⟩
            ·have:=HCd.out j hj
             simpa [World.cell?_setCell_other,hnb] using this
            ·have h1:=HSK.out.2
             cases ch' with
             | true=>have:=HRd.out.2.1 rfl;omega
             | false=>rw[(HRd.out.2.2 rfl).1] at h1 ⊢;exact h1
         ·obtain rfl:i=2:=by omega
          go_wp2_with fail
          go_roundg (n-(d+1))
          case measure=>omega
          case rel=>
           obtain⟨r1,r2,r3⟩:=HRd.out
           refine⟨L',ch',d+1,by omega,by omega,rfl,by go_num,HEd.out,HOd.out,r1,r2,fun h=>⟨(r3 h).1,fun e he=>?_,trivial⟩⟩
           by_cases e':e=d
           ·subst e'
            have h0:=(r3 h).2.2 0 (by omega)
            have h1:=(r3 h).2.2 1 (by omega)
            rw[HYS.out.1] at h0
            rw[HYS.out.2] at h1
            rw[HY1.out,HY2.out]
            exact⟨h0,h1⟩
           ·exact (r3 h).2.1 e (by omega)
      ·obtain rfl:d=n:=by omega
       go_wp2_with fail
       go_roundg g1
       case measure=>omega
       case rel=>
        obtain⟨r1,r2,r3⟩:=HRI.out
        refine⟨L,ch,rfl,HEb.out,HOb.out,r1,fun h=>by have:=r2 h;omega,fun h e he=>?_⟩
        rw[HL.out] at he
        exact (r3 h).2.1 e he
    | false=>
     have HLI:=Lib.hid hli
     have HCl:=Lib.hid (hch2 rfl)
     have HEa:=Lib.hid he1
     have HOa:=Lib.hid ho
     clear he1 ho hli hch1 hch2
     have HLn:Hid ((toI L0).length=n):=Lib.hid (by rw[toI_length,HLI.out.len,HL.out])
     go_wp2_with (refine wpList_make_full _ rfl _ _ 25 rfl wr.heap.size 3 i0 (.int .i64 0) 1 Tryz.underlying25 hi hz0 hz1 .i64 .i64 (n:Int) (n:Int) n rfl rfl rfl rfl ?q5 ?q6 (Nat.le_refl _) ?_)
     case q5=>rw[hz2];omega
     case q6=>unfold maxLen;omega
     intro w2 ho2 hg2
     have hown:=OwnI.madeAt (R:=R) (HEa.out.inv.none_of_ge (Nat.le_refl _)) ho2
     have HE2:=Lib.hid (HEa.out.grown hg2 (by simp))
     have HOn:=Lib.hid (HOa.out.kept hg2 (Or.inr (by simp[Value.ownBlock])))
     have hltb:b<wr.heap.size:=(HOa.out.lt b rfl).2
     have hRc:R wr.heap.size=none:=HEa.out.inv.none_of_ge (Nat.le_refl _)
     obtain⟨c,hcw⟩:∃ c,wr.heap.size=c:=⟨_,rfl⟩
     rw[hcw] at hown hltb hRc ⊢
     have HOw:=Lib.hid hown
     clear hown ho2 hg2 hcw
     go_wp2_with fail
     go_loopg [10,85] n (fun g v10 v85 wr=>∃ (k:Nat) (O:List Int),k≤n∧n-k≤g∧v10=.int .i64 (((partsGo s k).2:Nat):Int)∧v85=.int .i64 (k:Int)∧Ev R w0 R wr∧OwnI R b 3 wr (.slice (some ⟨b,0,none⟩) n n) (toI L0)∧OwnI R c 3 wr (.slice (some ⟨c,0,none⟩) n n) O∧O.length=n∧∀ j,j<k→nth O j=nth (partsL s) j)
     case atStart=>exact⟨0,_,by omega,by omega,rfl,rfl,HE2.out,HOn.out,HOw.out,by simp,fun j hj=>absurd hj (Nat.not_lt_zero _)⟩
     case round=>
      obtain⟨k,O,hk,hg,rfl,rfl,he,hol,hoo,hlo,hall⟩:=hrel
      have HEb:=Lib.hid he
      have HOl:=Lib.hid hol
      have HOo:=Lib.hid hoo
      have HLo:=Lib.hid hlo
      have HAl:=Lib.hid hall
      clear he hol hoo hlo hall
      have hcb:=HCnt.out k (by rw[HL.out];exact hk)
      have hcb:(partsGo s k).2≤k:=hcb
      obtain⟨q,hq⟩:∃ q,(partsGo s k).2=q:=⟨_,rfl⟩
      rw[hq] at hcb ⊢
      have HQ:=Lib.hid hq
      clear hq
      by_cases hkn:k<n
      ·obtain⟨_,e1,_,_,hcA,_⟩:=HOl.out.headAt HLn.out (i:=k) hkn
       cases e1
       rw[toI_nth] at hcA
       obtain⟨_,e1,_,_,hcB,hzB⟩:=HOo.out.headAt HLo.out (i:=k) hkn
       cases e1
       have hbc:b≠c:=by omega
       rcases HLast.out L0 HLI.out HCl.out k (by rw[HL.out];exact hkn) with ⟨e1,e2,e3⟩|⟨e1,e2,e3⟩
       ·rw[e1] at hcA
        have hst:=HOo.out.put HLo.out k hkn (q:Int)
        have HSE:=Lib.hid (HEb.out.setCell (p:=⟨c,k,none⟩) (show w0.heap.size≤c by have:=HSZ.out;omega) hRc (.int .i64 (q:Int)))
        have HSL':=Lib.hid (HOl.out.setCell (a:=⟨c,k,none⟩) (fun e=>hbc (by cases e;rfl)) (.int .i64 (q:Int)))
        have HST:=Lib.hid hst
        have H2:=Lib.hid e2
        have H3:=Lib.hid e3
        have heq:((k:Int) == (k:Int))=true:=by simp
        clear hst e1 e2 e3
        go_wp2_with fail
        go_roundg (n-(k+1))
        case measure=>omega
        case rel=>
         refine⟨k+1,O.set k (q:Int),by omega,by omega,by rw[H3.out,HQ.out];go_num,by go_num,HSE.out,HSL'.out,HST.out,by rw[List.length_set];exact HLo.out,fun j hj=>?_⟩
         rw[nth_set (by rw[HLo.out];exact hkn)]
         by_cases e:k=j
         ·subst e;rw[if_pos rfl,H2.out,HQ.out]
         ·rw[if_neg e];exact HAl.out j (by omega)
       ·obtain⟨l,hl⟩:∃ l,at' L0 k=l:=⟨_,rfl⟩
        rw[hl] at hcA e1 e2
        obtain⟨_,e4,_,_,hcC,_⟩:=HOo.out.headAt HLo.out (i:=l) (by omega)
        cases e4
        rw[HAl.out l e1] at hcC
        have hst:=HOo.out.put HLo.out k hkn (nth (partsL s) l)
        have HSE:=Lib.hid (HEb.out.setCell (p:=⟨c,k,none⟩) (show w0.heap.size≤c by have:=HSZ.out;omega) hRc (.int .i64 (nth (partsL s) l)))
        have HSL':=Lib.hid (HOl.out.setCell (a:=⟨c,k,none⟩) (fun e=>hbc (by cases e;rfl)) (.int .i64 (nth (partsL s) l)))
        have HST:=Lib.hid hst
        have H2:=Lib.hid e2
        have H3:=Lib.hid e3
        have heq:((l:Int) == (k:Int))=false:=by rw[beq_eq_false_iff_ne];omega
        clear hst e2 e3 hl
        go_wp2_with fail
        go_roundg (n-(k+1))
        case measure=>omega
        case rel=>
         refine⟨k+1,O.set k (nth (partsL s) l),by omega,by omega,by rw[H3.out,HQ.out],by go_num,HSE.out,HSL'.out,HST.out,by rw[List.length_set];exact HLo.out,fun j hj=>?_⟩
         rw[nth_set (by rw[HLo.out];exact hkn)]
         by_cases e:k=j
         ·subst e;rw[if_pos rfl,H2.out]
         ·rw[if_neg e];exact HAl.out j (by omega)
      ·obtain rfl:k=n:=by omega
       go_wp2_with fail
       go_ret
       refine⟨_,rfl,HE0.out.trans HEb.out,?_⟩
       have:O=partsL s:=ext_nth (by rw[HLo.out,HPL.out,HL.out]) fun j hj=>HAl.out j (by rw[←HLo.out];exact hj)
       rw[←this]
       exact HOo.out.mono (by omega)
end
section
open Go.RowKit
set_option linter.unusedVariables false
def allGe (xs:List Nat) (d i:Nat):Bool:=(xs.take i).all fun x=>decide (d≤x)
theorem allGe_succ {xs:List Nat} {d i:Nat} (hi:i<xs.length):allGe xs d (i+1)=(allGe xs d i && decide (d≤at' xs i)):=by
 unfold allGe
 rw[List.take_succ_eq_append_getElem hi,List.all_append,at'_eq hi]
 simp
theorem allGe_all {t:List Nat} (ht:IsPerm t) {d:Nat} (hd:d<t.length):allGe (orbitL t d) d (orbitL t d).length=leadB t d:=by
 rw[Bool.eq_iff_iff,leadB_iff ht hd]
 unfold allGe
 rw[List.take_length,List.all_eq_true]
 constructor
 ·intro h y hy hc
  have hc':cyc t.length (at' t) d y:=ht.pm.per.symm hc
  obtain⟨_,_,j,e⟩:=hc'
  have hm:y∈orbitL t d:=(ht.mem_orbit hd).2 ⟨j,by rw[←itf_at];exact e⟩
  have:=h y hm
  simp at this
  omega
 ·intro h x hx
  have hxl:=orbitL_lt ht hd x hx
  obtain⟨j,e⟩:=(ht.mem_orbit hd).1 hx
  simp only[decide_eq_true_eq]
  rcases Nat.lt_or_ge x d with hlt|hge
  ·exact absurd (ht.pm.per.symm ⟨hd,hxl,j,by rw[itf_at];exact e⟩) (h x hlt)
  ·exact hge
set_option maxRecDepth 100000 in
set_option maxHeartbeats 2000000 in
theorem rof_any (R:Reg) (w:World) (hI:Inv R w) (v u:Value) (t:List Nat) (N:List Int) (hv:FreeI R w v (toI t)) (hu:FreeI R w u N) (ht:IsPerm t) (hn:t.length≤131073) (hN:N.length=t.length) (k:Int):
  Calls Tryz.prog 88 #[v,u,.int .i64 k] w (RetE R w (.int .i64 ((vcnt t N k t.length:Nat):Int))):=by
 obtain⟨a0,cap0,rfl,hv⟩:=hv.open
 obtain⟨a1,cap1,rfl,hu⟩:=hu.open
 rw[toI_length] at hv ⊢
 rw[hN] at hu ⊢
 obtain⟨n,hl⟩:∃ n,t.length=n:=⟨_,rfl⟩
 have HOrb:=Lib.hid (fun w' (he:Ev R w R w') d (hd:d<t.length)=>rorbit_any R w' he.inv _ t (hv.ev he) ht (by omega) d hd)
 have HLd:=Lib.hid (fun d (hd:d<t.length)=>allGe_all ht hd)
 have HOl:=Lib.hid (fun d=>orbitL_length t d)
 have HL:=Lib.hid hl
 have HNl:=Lib.hid hN
 rw[hl] at hn hu HOrb ⊢
 have HU:=Lib.hid hu
 have HI:=Lib.hid hI
 clear hI hl hv hu ht hN
 go_enter Tryz.func88,Tryz.ntmps88
 go_wp2_with fail
 go_loopg [7,14] n (fun g v7 v14 wr=>∃ d:Nat,d≤n∧n-d≤g∧v7=.int .i64 ((vcnt t N k d:Nat):Int)∧v14=.int .i64 (d:Int)∧Ev R w R wr)
 case atStart=>exact⟨0,by omega,by omega,rfl,rfl,Ev.refl HI.out⟩
 case round=>
  obtain⟨d,hd,hg,rfl,rfl,he⟩:=hrel
  have HE:=Lib.hid he
  clear he
  have hvb:=vcnt_le t N k d
  obtain⟨c,hc⟩:∃ c,vcnt t N k d=c:=⟨_,rfl⟩
  rw[hc] at hvb ⊢
  have HC:=Lib.hid hc
  clear hc
  by_cases hdn:d<n
  ·have HO:=Lib.hid (HOrb.out wr HE.out d hdn)
   go_wp2_with fail
   refine HO.out.mono ?_
   rintro e w1 ⟨vo,rfl,he1,ho1⟩
   obtain⟨ao,co,rfl,hof⟩:=ho1.free.open
   have hol:=HOl.out d
   obtain⟨L,hL⟩:∃ L,orbitL t d=L:=⟨_,rfl⟩
   rw[hL] at hof hol ⊢
   rw[toI_length] at hof ⊢
   obtain⟨m,hm⟩:∃ m,L.length=m:=⟨_,rfl⟩
   rw[hm] at hof hol ⊢
   rw[HL.out] at hol
   have HE1:=Lib.hid (HE.out.trans he1)
   have HF1:=Lib.hid hof
   have HLL:=Lib.hid hL
   have HMm:=Lib.hid hm
   clear he1 hof ho1 hL hm
   go_wp2_with fail
   go_loopg [9,21] m (fun g v9 v21 wr=>∃ (i:Nat) (b:Bool),i≤m∧m-i≤g∧v9=.bool b∧b=allGe L d i∧v21=.int .i64 (i:Int)∧wr=w1)
   case atStart=>exact⟨0,true,by omega,by omega,rfl,rfl,rfl,rfl⟩
   case round=>
    obtain⟨i,b,hi,hg2,rfl,hb,rfl,rfl⟩:=hrel
    have HB:=Lib.hid hb
    clear hb
    by_cases him:i<m
    ·obtain⟨bb,oo,e1,hcx⟩:=HF1.out.at (i:=i) (by rw[HMm.out];exact him)
     cases e1
     obtain⟨x,hx⟩:∃ x,at' L i=x:=⟨_,rfl⟩
     rw[hx] at hcx
     have HX:=Lib.hid hx
     clear hx
     cases b with
     | false=>
      go_wp2_with fail
      go_roundg (m-(i+1))
      case measure=>omega
      case rel=>exact⟨i+1,false,by omega,by omega,rfl,by rw[allGe_succ (by rw[HMm.out];exact him),←HB.out];rfl,by go_num,rfl⟩
     | true=>
      by_cases hxd:d≤x
      ·go_wp2_with fail
       go_roundg (m-(i+1))
       case measure=>omega
       case rel=>exact⟨i+1,true,by omega,by omega,by simp,by rw[allGe_succ (by rw[HMm.out];exact him),←HB.out,HX.out];simp[hxd],by go_num,rfl⟩
      ·go_wp2_with fail
       go_roundg (m-(i+1))
       case measure=>omega
       case rel=>exact⟨i+1,false,by omega,by omega,by simp,by rw[allGe_succ (by rw[HMm.out];exact him),←HB.out,HX.out];simp[hxd],by go_num,rfl⟩
    ·obtain rfl:i=m:=by omega
     have hb2:b=leadB t d:=by
      rw[HB.out,←HLd.out d (by rw[HL.out];exact hdn),HLL.out,HMm.out]
     have HB2:=Lib.hid hb2
     obtain⟨bb,oo,e1,hcx⟩:=(HU.out.ev HE1.out).1.cell (i:=d) (by rw[HNl.out,HL.out];exact hdn)
     cases e1
     obtain⟨x,hx⟩:∃ x,nth N d=x:=⟨_,rfl⟩
     rw[hx] at hcx
     have HX:=Lib.hid hx
     clear hb2 hx him hi hg2
     cases b with
     | false=>
      go_wp2_with fail
      go_roundg (n-(d+1))
      case measure=>omega
      case rel=>exact⟨d+1,by omega,by omega,by rw[vcnt_succ,if_neg (fun h=>by rw[←HB2.out] at h;cases h.2),HC.out];rfl,by go_num,HE1.out⟩
     | true=>
      by_cases hxk:x=k
      ·subst hxk
       have heq:(x == x)=true:=by simp
       go_wp2_with fail
       go_roundg (n-(d+1))
       case measure=>omega
       case rel=>exact⟨d+1,by omega,by omega,by rw[vcnt_succ,if_pos ⟨HX.out,HB2.out.symm⟩,HC.out];go_num,by go_num,HE1.out⟩
      ·have heq:(x == k)=false:=by rw[beq_eq_false_iff_ne];exact hxk
       go_wp2_with fail
       go_roundg (n-(d+1))
       case measure=>omega
       case rel=>exact⟨d+1,by omega,by omega,by rw[vcnt_succ,if_neg (fun h=>hxk (by rw[←h.1,HX.out])),HC.out];rfl,by go_num,HE1.out⟩
  ·obtain rfl:d=n:=by omega
   go_wp2_with fail
   go_ret
   exact⟨ret_int (by rw[←HC.out]),HE.out⟩
def OwnRs (R:Reg) (B:Nat) (w:World) (v:Value) (C:Nat) (f:Nat→PartR):Prop:=
 ∃ a cap,v=.slice a C cap∧OwnV R B 110 5 w (.slice a C cap) C (flatF f C)
def RetRefs (R:Reg) (w:World) (C:Nat) (f:Nat→PartR) (e:Ending) (w':World):Prop:=∃ v,e=.returned v∧Ev R w R w'∧OwnRs R w.heap.size w' v C f
theorem rpart_info:(Tryz.prog.info? 110).map (fun i=>(i.zero,i.size,i.bytes))=some (some (.agg #[.int .i64 0,.int .i64 0,.int .i64 0,.int .i64 0,.int .i64 0]),5,40):=by kernel_rfl
theorem edges_half {s:List Nat} (hs:IsPerm s) (he:s.length % 2=0) (k:Int):dcnt (partsL s) k s.length=2*ecnt (partsL s) k s.length:=by
 have h:=edges_tally (s:=s) (N:=partsL s) k (fun x hx=>partsL_mate hs he hx) (e:=s.length / 2) (by omega)
 rw[show 2*(s.length / 2)=s.length by omega] at h
 omega
set_option maxRecDepth 100000 in
set_option maxHeartbeats 4000000 in
theorem r8parts_any (R:Reg) (w:World) (hI:Inv R w) (v:Value) (s:List Nat) (root:Int) (lone:Nat) (hv:FreeI R w v (toI s)) (hS:IsPerm s) (hn:s.length≤131073) (he:s.length % 2=0) (hlone:lone≤65536):
  Calls Tryz.prog 55 #[refV v root lone] w (RetRefs R w (partsN s+lone) (partsF s)):=by
 obtain⟨a0,cap0,rfl,hv⟩:=hv.open
 rw[toI_length] at hv ⊢
 obtain⟨n,hl⟩:∃ n,s.length=n:=⟨_,rfl⟩
 have HNm:=Lib.hid (fun w' (he':Ev R w R w')=>r8names_any R w' he'.inv _ s root lone (hv.ev he') hS hn he)
 have HPh:=Lib.hid (fun w' (he':Ev R w R w')=>rphi_any R w' he'.inv _ s root lone (hv.ev he') (by omega) he)
 have HO1:=Lib.hid (fun w' (he':Ev R w R w') u (hu:FreeI R w' u (partsL s)) k=>rof_any R w' he'.inv _ u s (partsL s) (hv.ev he') hu hS hn (partsL_length hS he) k)
 have HO2:=Lib.hid (fun w' (he':Ev R w R w') v u (hv:FreeI R w' v (toI (phiL s))) (hu:FreeI R w' u (partsL s)) k=>rof_any R w' he'.inv v u (phiL s) (partsL s) hv hu (phiL_perm hS he) (by rw[phiL_length];exact hn) (by rw[phiL_length];exact partsL_length hS he) k)
 have HOrd:=Lib.hid (partsL_ord hS he)
 have HGen:=Lib.hid (fun k (hk:k<partsN s)=>genOf_euler hS he hk)
 have HHalf:=Lib.hid (fun k=>edges_half hS he k)
 have HL:=Lib.hid hl
 rw[hl] at HNm HPh HO1 HOrd hn hv ⊢
 have HV:=Lib.hid hv
 have HI:=Lib.hid hI
 clear hI hl hv hS he
 have HPN:Hid ((partsGo s n).2=partsN s):=Lib.hid (by unfold partsN;rw[HL.out])
 obtain⟨cnt,hcnt⟩:∃ c:Nat→Nat,(fun k=>(partsGo s k).2)=c:=⟨_,rfl⟩
 rw[hcnt] at HOrd
 have HCN:Hid (cnt n=partsN s):=Lib.hid (by rw[←hcnt];exact HPN.out)
 clear HPN hcnt
 have he0:Ev R w R (w.alloc (.cells #[.slice a0 n cap0,.int .i64 root,.int .i64 lone] 27)):=(Ev.refl HI.out).alloc _
 obtain⟨w0,hw0⟩:∃ w0,w0=w.alloc (.cells #[.slice a0 n cap0,.int .i64 root,.int .i64 lone] 27):=⟨_,rfl⟩
 have hsz0:w0.heap.size=w.heap.size+1:=by rw[hw0];simp
 have hcells:∀ w',Ev R w0 R w'→w'.cell? ⟨w.heap.size,0,none⟩=some (.slice a0 n cap0)∧w'.cell? ⟨w.heap.size,1,none⟩=some (.int .i64 root)∧w'.cell? ⟨w.heap.size,2,none⟩=some (.int .i64 lone):=fun w' h=>by
  refine⟨?_,?_,?_⟩ <;> (rw[h.cell (by omega) (HI.out.none_of_ge (Nat.le_refl _)),hw0];simp)
 have HCL:=Lib.hid hcells
 clear hcells
 unfold refV at HNm HPh ⊢
 go_enter Tryz.func55,Tryz.ntmps55
 rw[←hw0] at he0
 have HE0:=Lib.hid he0
 obtain⟨x0,x1,x2⟩:=HCL.out w0 (Ev.refl he0.inv)
 go_wp2_with fail
 rw[←hw0]
 refine (HNm.out w0 HE0.out).mono ?_
 rintro e w1 ⟨vN,rfl,he1,ho1⟩
 obtain⟨aN,cN,rfl,hf1⟩:=ho1.free.open
 rw[HOrd.out.len] at hf1 ⊢
 have he1':=HE0.out.trans he1
 obtain⟨x0,x1,x2⟩:=HCL.out w1 he1
 have HE1:=Lib.hid he1'
 have HEa:=Lib.hid he1
 have HF1:=Lib.hid hf1
 clear he1 ho1 hf1 he1' he0 hw0
 go_wp2_with fail
 refine (HPh.out w1 HE1.out).mono ?_
 rintro e w2 ⟨vP,rfl,he2,ho2⟩
 obtain⟨aP,cP,rfl,hf2⟩:=ho2.free.open
 have hpl:(toI (phiL s)).length=n:=by rw[toI_length,phiL_length,HL.out]
 rw[hpl] at hf2 ⊢
 have HE2:=Lib.hid (HE1.out.trans he2)
 have HEb:=Lib.hid (HEa.out.trans he2)
 have HF2:=Lib.hid hf2
 have HF1:=Lib.hid (HF1.out.ev he2)
 clear he2 ho2 hf2 x0 x1 x2 hpl HEa HE1
 go_wp2_with fail
 go_loopg [3,18] n (fun g v3 v18 wr=>∃ d:Nat,d≤n∧n-d≤g∧v18=.int .i64 (d:Int)∧Ev R w2 R wr∧OwnRs R w2.heap.size wr v3 (cnt d) (partsF s))
 case atStart=>exact⟨0,Nat.zero_le _,by omega,rfl,Ev.refl HE2.out.inv,by rw[HOrd.out.zero];exact⟨none,0,rfl,OwnV.nil R _ _ _ _⟩⟩
 case round=>
  obtain⟨d,hd,hg,rfl,he,a3,c3,rfl,ho⟩:=hrel
  have HE:=Lib.hid he
  have HO:=Lib.hid ho
  clear he ho
  by_cases hdn:d<n
  ·have hcle:=HOrd.out.cnt_le (k:=d) (by omega)
   have hcle1:=HOrd.out.cnt_le (k:=d+1) (by omega)
   have hmono:=HOrd.out.mono (k:=d+1) (l:=n) (by omega) (Nat.le_refl _)
   rw[HCN.out] at hmono
   obtain⟨bN,oN,e1,hcN⟩:=(HF1.out.ev HE.out).1.cell (i:=d) (by rw[HOrd.out.len];exact hdn)
   subst e1
   have hor:=HOrd.out.ord d hdn
   have hfst:=fun e=>HOrd.out.first hdn e
   obtain⟨k,hk⟩:=Int.eq_ofNat_of_zero_le (HOrd.out.bound hdn).1
   rw[hk] at hcN hor hfst
   obtain⟨q,hq⟩:∃ q,cnt d=q:=⟨_,rfl⟩
   obtain⟨q1,hq1⟩:∃ q,cnt (d+1)=q:=⟨_,rfl⟩
   rw[hq,hq1] at hor
   rw[hq] at HO hcle hfst ⊢
   rw[hq1] at hmono hcle1
   have HK:=Lib.hid hk
   have HQ:=Lib.hid hq
   have HQ1:=Lib.hid hq1
   have HFst:=Lib.hid hfst
   clear hk hq hq1 hfst
   by_cases hnew:k=q
   ·subst hnew
    obtain rfl:q1=k+1:=by omega
    clear hor
    have heq:((k:Int) != (k:Int))=false:=by simp
    obtain⟨x0,x1,x2⟩:=HCL.out wr (HEb.out.trans HE.out)
    have hP1:=HO1.out wr (HE2.out.trans HE.out) _ (HF1.out.ev HE.out) (k:Int)
    obtain⟨V,hV⟩:∃ V,vcnt s (partsL s) (k:Int) n=V:=⟨_,rfl⟩
    obtain⟨B,hB⟩:∃ V,vcnt (phiL s) (partsL s) (k:Int) n=V:=⟨_,rfl⟩
    obtain⟨E,hE⟩:∃ V,ecnt (partsL s) (k:Int) n=V:=⟨_,rfl⟩
    obtain⟨g0,hg0⟩:∃ V,genOf s (partsL s) k=V:=⟨_,rfl⟩
    rw[hV] at hP1
    have hgn:=HGen.out k (by omega)
    have hhf:=HHalf.out (k:Int)
    have hVb:=vcnt_le s (partsL s) (k:Int) n
    have hEb:=ecnt_le (partsL s) (k:Int) n
    have hBb:=vcnt_le (phiL s) (partsL s) (k:Int) n
    have hg1:genOf s (partsL s) k=(2-(vcnt s (partsL s) (k:Int) s.length:Nat)+(ecnt (partsL s) (k:Int) s.length:Nat)-(vcnt (phiL s) (partsL s) (k:Int) s.length:Nat)) / 2:=rfl
    have hpf:partsF s k=⟨(d:Int),(V:Int),(E:Int),(B:Int),g0⟩:=by
     unfold partsF
     rw[if_pos (by omega)]
     unfold partF partAt
     rw[rootOf_eq (j:=d) (by rw[HOrd.out.len];exact hdn) HK.out (HFst.out rfl),HL.out,hV,hE,hB,hg0]
    rw[HL.out] at hgn hhf hg1
    rw[hV,hE,hB,hg0] at hgn hg1
    rw[hE] at hhf hEb
    rw[hV] at hVb
    rw[hB] at hBb
    obtain⟨ha,hb⟩:=hgn
    have hq0:0≤2-(V:Int)+(E:Int)-(B:Int):=by omega
    have HG1:=Lib.hid hg1
    have HPF:=Lib.hid hpf
    have HHF:=Lib.hid hhf
    have HP1:=Lib.hid hP1
    have HBe:=Lib.hid hB
    clear hP1 hV hB hE hg0 hg1 hpf hhf hb
    go_wp2_with fail
    refine HP1.out.mono ?_
    rintro e w3 ⟨rfl,he3⟩
    have HE3:=Lib.hid (HE.out.trans he3)
    have HO3:=Lib.hid (HO.out.ev he3)
    have hP2:=HO2.out w3 (HE2.out.trans HE3.out) _ _ (HF2.out.ev HE3.out) (HF1.out.ev HE3.out) (k:Int)
    rw[phiL_length,HL.out,HBe.out] at hP2
    have HP2:=Lib.hid hP2
    clear he3 x0 x1 x2 hcN hP2
    go_wp2_with fail
    refine HP2.out.mono ?_
    rintro e w4 ⟨rfl,he4⟩
    have HE4:=Lib.hid (HE3.out.trans he4)
    have HO4:=Lib.hid (HO3.out.ev he4)
    clear he4
    go_wp2_with fail
    obtain⟨T0,hT0⟩:∃ T0:TypeId,T0=110:=⟨_,rfl⟩
    have hblk:(w4.alloc (.cells #[.int .i64 (d:Int),.int .i64 (V:Int),.int .i64 0,.int .i64 (B:Int),.int .i64 0] T0)).heap[w4.heap.size]?=some (.cells #[.int .i64 (d:Int),.int .i64 (V:Int),.int .i64 0,.int .i64 (B:Int),.int .i64 0] T0 (0,0)):=heap_alloc_new w4 _
    have he5:=HE4.out.alloc (.cells #[.int .i64 (d:Int),.int .i64 (V:Int),.int .i64 0,.int .i64 (B:Int),.int .i64 0] T0)
    have ho5:=HO4.out.alloc (.cells #[.int .i64 (d:Int),.int .i64 (V:Int),.int .i64 0,.int .i64 (B:Int),.int .i64 0] T0)
    have hRg:R w4.heap.size=none:=HE4.out.inv.none_of_ge (Nat.le_refl _)
    have hsz4:=HE4.out.size
    have hob:∀ z,(Value.slice a3 k c3).ownBlock=some z→z<w4.heap.size:=fun z hz=>(HO4.out.lt z hz).2
    have HOB:=Lib.hid hob
    rw[hT0] at hblk he5 ho5
    obtain⟨w5,hw5⟩:∃ w5,w5=w4.alloc (.cells #[.int .i64 (d:Int),.int .i64 (V:Int),.int .i64 0,.int .i64 (B:Int),.int .i64 0] 110):=⟨_,rfl⟩
    rw[←hw5] at hblk he5 ho5 ⊢
    obtain⟨g,hg⟩:∃ g,w4.heap.size=g:=⟨_,rfl⟩
    rw[hg] at hblk hRg hsz4 HOB ⊢
    have HB5:=Lib.hid hblk
    have HE5:=Lib.hid he5
    have HO5:=Lib.hid ho5
    clear hblk he5 ho5 hw5 hg hT0 hob HE4 HO4 HE3 HO3 HP1 HP2
    have hDle:=fun i=>dcnt_le (partsL s) (k:Int) i
    have HDL:=Lib.hid hDle
    clear hDle
    go_loopg [40] n (fun gg v40 wr=>∃ (i:Nat) (D:Nat),i≤n∧n-i≤gg∧v40=.int .i64 (i:Int)∧D=dcnt (partsL s) (k:Int) i∧wr.heap[g]?=some (.cells #[.int .i64 (d:Int),.int .i64 (V:Int),.int .i64 (D:Int),.int .i64 (B:Int),.int .i64 0] 110 (0,0))∧Ev R w2 R wr∧OwnV R w2.heap.size 110 5 wr (.slice a3 k c3) k (flatF (partsF s) k))
    case atStart=>exact⟨0,0,by omega,by omega,rfl,rfl,HB5.out,HE5.out,HO5.out⟩
    case round=>
     obtain⟨i,D,hi,hg2,rfl,hD,hblk,he,ho⟩:=hrel
     have hDb:D≤i:=by rw[hD];exact HDL.out i
     have HD:=Lib.hid hD
     have HBk:=Lib.hid hblk
     have HEi:=Lib.hid he
     have HOi:=Lib.hid ho
     have f1:=cells_at hblk 1
     have f2:=cells_at hblk 2
     have f3:=cells_at hblk 3
     have f4:=cells_at hblk 4
     have z2:=free_at hblk 2
     have z4:=free_at hblk 4
     have q0:wr.cell? ⟨g,0,none⟩=some (.int .i64 (d:Int)):=cells_at hblk 0
     have q1:wr.cell? ⟨g,1,none⟩=some (.int .i64 (V:Int)):=f1
     have q2:wr.cell? ⟨g,2,none⟩=some (.int .i64 (D:Int)):=f2
     have q3:wr.cell? ⟨g,3,none⟩=some (.int .i64 (B:Int)):=f3
     have q4:wr.cell? ⟨g,4,none⟩=some (.int .i64 0):=f4
     have hne:∀ o:Nat,(Value.slice a3 k c3).ownBlock≠some (⟨g,o,none⟩:Addr).block:=fun o e=>Nat.lt_irrefl _ (HOB.out g e)
     have HNE:=Lib.hid hne
     clear hD hblk he ho f1 f2 f3 f4 hne
     by_cases hin:i<n
     ·obtain⟨bM,oM,e1,hcM⟩:=(HF1.out.ev HEi.out).1.cell (i:=i) (by rw[HOrd.out.len];exact hin)
      cases e1
      obtain⟨x,hx⟩:∃ x,nth (partsL s) i=x:=⟨_,rfl⟩
      rw[hx] at hcM
      have HX:=Lib.hid hx
      clear hx
      by_cases hxk:x=(k:Int)
      ·have heq2:(x == (k:Int))=true:=by rw[beq_iff_eq];exact hxk
       have HB2:=Lib.hid (heap_setCell_same wr g 2 _ _ (.int .i64 ((D:Int)+1)) HBk.out)
       have HE2':=Lib.hid (HEi.out.setCell (p:=⟨g,2,none⟩) hsz4 hRg (.int .i64 ((D:Int)+1)))
       have HO2':=Lib.hid (HOi.out.setCell (a:=⟨g,2,none⟩) (HNE.out 2) (.int .i64 ((D:Int)+1)))
       have HXK:=Lib.hid hxk
       clear hxk
       go_wp2_with fail
       go_roundg (n-(i+1))
       case measure=>omega
       case rel=>exact⟨i+1,D+1,by omega,by omega,by go_num,by rw[dcnt_succ,HX.out,if_pos HXK.out,HD.out],HB2.out,HE2'.out,HO2'.out⟩
      ·have heq2:(x == (k:Int))=false:=by rw[beq_eq_false_iff_ne];exact hxk
       go_wp2_with fail
       go_roundg (n-(i+1))
       case measure=>omega
       case rel=>exact⟨i+1,D,by omega,by omega,by go_num,by rw[dcnt_succ,HX.out,if_neg hxk,HD.out];rfl,HBk.out,HEi.out,HOi.out⟩
     ·obtain rfl:i=n:=by omega
      have hDE:D=2*E:=by rw[HD.out,HHF.out]
      have hdiv:(D:Int) / 2=(E:Int):=by omega
      have hg1:=HG1.out
      subst hg1
      have hb1:=heap_setCell_same wr g 2 _ _ (.int .i64 (E:Int)) HBk.out
      have hb2:=heap_setCell_same _ g 4 _ _ (.int .i64 ((2-(V:Int)+(E:Int)-(B:Int)) / 2)) hb1
      have he7:=((HEi.out.setCell (p:=⟨g,2,none⟩) hsz4 hRg (.int .i64 (E:Int))).setCell (p:=⟨g,4,none⟩) hsz4 hRg (.int .i64 ((2-(V:Int)+(E:Int)-(B:Int)) / 2))).alloc (.cells #[.int .i64 (d:Int),.int .i64 (V:Int),.int .i64 (E:Int),.int .i64 (B:Int),.int .i64 ((2-(V:Int)+(E:Int)-(B:Int)) / 2)] 110)
      have ho7:=((HOi.out.setCell (a:=⟨g,2,none⟩) (HNE.out 2) (.int .i64 (E:Int))).setCell (a:=⟨g,4,none⟩) (HNE.out 4) (.int .i64 ((2-(V:Int)+(E:Int)-(B:Int)) / 2))).alloc (.cells #[.int .i64 (d:Int),.int .i64 (V:Int),.int .i64 (E:Int),.int .i64 (B:Int),.int .i64 ((2-(V:Int)+(E:Int)-(B:Int)) / 2)] 110)
      have HE7:=Lib.hid he7
      have HO7:=Lib.hid ho7
      have hszw:=HEi.out.size
      clear he7 ho7
      clear hb1 hb2
      subst hDE
      go_wp2_with (at_builtin;refine wpList_app_row 95 110 5 40 _ Tryz.underlying95 rpart_info rfl (by omega) (by omega) (R:=R) (B:=w2.heap.size) rfl _ _ rfl HO7.out rfl ⟨wr.heap.size,0,none⟩ 1 1 (partC ⟨(d:Int),(V:Int),(E:Int),(B:Int),(2-(V:Int)+(E:Int)-(B:Int)) / 2⟩) rfl rfl ?g1 ?g2 ?g3 ?g4 ?g5 ?_)
      case g1=>first|exact fun _ _ h=>h|(intro j u h;have:=new_cells ((wr.setCell ⟨g,2,none⟩ (.int .i64 (E:Int))).setCell ⟨g,4,none⟩ (.int .i64 ((2-(V:Int)+(E:Int)-(B:Int)) / 2))) _ 110 j u h;simpa using this)
      case g2=>
       intro u hu
       simp only[partC,List.mem_cons,List.not_mem_nil,or_false] at hu
       rcases hu with rfl|rfl|rfl|rfl|rfl <;> rfl
      case g3=>omega
      case g4=>first|omega|(simp;omega)
      case g5=>exact fun q hq=>HE7.out.inv.none_of_ge (by simp at hq ⊢;omega)
      intro v' w8 ho8 hg8 _
      have HE8:=Lib.hid (HE7.out.appV HO7.out (Nat.le_refl _) hg8)
      have HO8:=Lib.hid ho8
      clear ho8 hg8
      go_wp2_with fail
      go_roundg (i-(d+1))
      case measure=>omega
      case rel=>
       have ho6:=HO8.out
       rw[←HPF.out] at ho6
       obtain⟨a6,c6,rfl,_⟩:=ho6.open
       exact⟨d+1,by omega,by omega,by go_num,HE8.out,by rw[HQ1.out];exact⟨a6,c6,rfl,ho6⟩⟩
   ·have heq:((k:Int) != (q:Int))=true:=by rw[bne_iff_ne];omega
    obtain rfl:q1=q:=by omega
    clear hor
    go_wp2_with fail
    go_roundg (n-(d+1))
    case measure=>omega
    case rel=>exact⟨d+1,by omega,by omega,by go_num,HE.out,by rw[HQ1.out];exact⟨a3,c3,rfl,HO.out⟩⟩
  ·obtain rfl:d=n:=by omega
   rw[HCN.out] at HO ⊢
   obtain⟨C,hC⟩:∃ C,partsN s=C:=⟨_,rfl⟩
   have hcle:=HOrd.out.cnt_le (Nat.le_refl d)
   rw[HCN.out] at hcle
   rw[hC] at HO hcle ⊢
   have HC:=Lib.hid hC
   have HLn:Hid (∀ i,C≤i→partsF s i=loneR):=Lib.hid (fun i hi=>by
    unfold partsF
    rw[if_neg (by rw[hC];omega)])
   have HX:=Lib.hid (fun w' (h:Ev R w2 R w')=>(HCL.out w' (HEb.out.trans h)).2.2)
   obtain⟨wj2,hwj⟩:∃ wj:World,wj=wr:=⟨_,rfl⟩
   subst hwj
   clear hC hdn hd hg
   go_wp2_with fail
   go_loopg [3,11] lone (fun g v3 v11 wr=>∃ i:Nat,i≤lone∧lone-i≤g∧v11=.int .i64 (i:Int)∧Ev R w2 R wr∧OwnRs R w2.heap.size wr v3 (C+i) (partsF s))
   case atStart=>exact⟨0,Nat.zero_le _,by omega,rfl,HE.out,_,_,rfl,HO.out⟩
   case round=>
    obtain⟨i,hi,hg,rfl,he,a3,c3,rfl,ho⟩:=hrel
    have HEx:=Lib.hid he
    have HOx:=Lib.hid ho
    have x2:=HX.out wr he
    clear he ho
    by_cases hil:i<lone
    ·have ho4:=HOx.out.alloc (.cells #[.int .i64 (-1),.int .i64 1,.int .i64 0,.int .i64 1,.int .i64 0] 110)
     have he4:=HEx.out.alloc (.cells #[.int .i64 (-1),.int .i64 1,.int .i64 0,.int .i64 1,.int .i64 0] 110)
     have HO4:=Lib.hid ho4
     have HE4:=Lib.hid he4
     have hsz:=HEx.out.size
     clear ho4 he4
     go_wp2_with (at_builtin;refine wpList_app_row 95 110 5 40 _ Tryz.underlying95 rpart_info rfl (by omega) (by omega) (R:=R) (B:=w2.heap.size) rfl _ _ rfl HO4.out rfl ⟨wr.heap.size,0,none⟩ 1 1 (partC loneR) rfl rfl ?g6 ?g7 ?g8 ?g9 ?g0 ?_)
     case g6=>exact fun j u h=>new_cells wr (partC loneR) _ j u h
     case g7=>
      intro u hu
      simp only[partC,loneR,List.mem_cons,List.not_mem_nil,or_false] at hu
      rcases hu with rfl|rfl|rfl|rfl|rfl <;> rfl
     case g8=>omega
     case g9=>first|omega|(simp;omega)
     case g0=>exact fun q hq=>HE4.out.inv.none_of_ge (by simp at hq ⊢;omega)
     intro v' w5 ho5 hg5 _
     have HE5:=Lib.hid (HE4.out.appV HO4.out (Nat.le_refl _) hg5)
     have HO5:=Lib.hid ho5
     clear ho5 hg5
     go_wp2_with fail
     go_roundg (lone-(i+1))
     case measure=>omega
     case rel=>
      have ho6:=HO5.out
      rw[←HLn.out (C+i) (by omega)] at ho6
      obtain⟨a6,c6,rfl,_⟩:=ho6.open
      exact⟨i+1,by omega,by omega,by go_num,HE5.out,a6,c6,rfl,ho6⟩
    ·obtain rfl:i=lone:=by omega
     go_wp2_with fail
     go_ret
     refine⟨_,rfl,HE2.out.trans HEx.out,?_⟩
     rw[HC.out]
     exact⟨a3,c3,rfl,HOx.out.mono HE2.out.size⟩
end
section
open Go.RowKit
set_option linter.unusedVariables false
def sumG (f:Nat→PartR):Nat→Int
 | 0=>0
 | k+1=>sumG f k+(f k).g
theorem sumG_succ (f:Nat→PartR) (k:Nat):sumG f (k+1)=sumG f k+(f k).g:=rfl
theorem sumG_bound {f:Nat→PartR} (h:∀ k,0≤(f k).g∧(f k).g≤65538):∀ k,0≤sumG f k∧sumG f k≤65538*(k:Int)
 | 0=>⟨Int.le_refl _,by simp[sumG]⟩
 | k+1=>by have:=sumG_bound h k;have:=h k;rw[sumG_succ];omega
theorem sumG_parts (s:List Nat):∀ k,k≤partsN s→sumG (partsF s) k=genusTo s k
 | 0,_=>rfl
 | k+1,hk=>by
  rw[sumG_succ,sumG_parts s k (by omega)]
  unfold partsF
  rw[if_pos (by omega)]
  rfl
theorem sumG_all (s:List Nat):∀ lone,sumG (partsF s) (partsN s+lone)=genusL s
 | 0=>sumG_parts s _ (Nat.le_refl _)
 | l+1=>by
  rw[←Nat.add_assoc,sumG_succ,sumG_all s l]
  unfold partsF
  rw[if_neg (by omega)]
  show _+0=_
  omega
set_option maxRecDepth 100000 in
set_option maxHeartbeats 2000000 in
theorem egenus_any (R:Reg) (w:World) (hI:Inv R w) (p:Value) (s:List Nat) (root:Int) (lone:Nat) (hp:MapAt R p s root lone):
  Calls Tryz.prog 121 #[p] w (RetV R w (.int .i64 (genusL s))):=by
 obtain⟨hs,hok⟩:=hp.ok hI
 have he2:s.length % 2=0:=hok.1
 have hn:s.length≤131073:=hok.2.1
 have hlone:lone≤65536:=by have:=hok.2.2;omega
 have hpn:=partsN_le hs he2
 have HP:=Lib.hid (eparts_any R w hI p s root lone hp)
 have hG:=partsF_g hs he2 hn
 have HS:Hid (∀ i,i≤partsN s+lone→0≤sumG (partsF s) i∧sumG (partsF s) i≤65538*300000):=Lib.hid (fun i hi=>by have:=sumG_bound hG i;omega)
 have HG:=Lib.hid hG
 have HA:=Lib.hid (sumG_all s lone)
 have hcl:partsN s+lone≤300000:=by omega
 clear hI hp hs hok hG
 go_enter Tryz.func121,Tryz.ntmps121
 go_wp2_with fail
 refine HP.out.mono ?_
 rintro e w1 ⟨v,R1,rfl,he,a,c,rfl,ho⟩
 have HO:=Lib.hid ho
 have HE:=Lib.hid he
 clear ho he
 go_wp2_with fail
 go_loopg [3,9] (partsN s+lone) (fun gg v3 v9 wr=>∃ i:Nat,i≤partsN s+lone∧partsN s+lone-i≤gg∧v3=.int .i64 (sumG (partsF s) i)∧v9=.int .i64 (i:Int)∧Ev R1 w1 R1 wr)
 case atStart=>exact⟨0,by omega,by omega,rfl,rfl,Ev.refl HE.out.inv⟩
 case round=>
  obtain⟨i,hi,hg,rfl,rfl,hev⟩:=hrel
  have HEv:=Lib.hid hev
  clear hev
  by_cases hil:i<partsN s+lone
  ·obtain⟨b0,b1⟩:=HS.out i (by omega)
   obtain⟨b2,b3⟩:=HG.out i
   have ho:=HO.out.ev HEv.out
   obtain⟨gb,rfl,_,_,c0,_⟩:=ho.headAt (i:=i*5+0) (by rw[flatF_length];omega)
   obtain⟨_,e1,_,_,c1,_⟩:=ho.headAt (i:=i*5+1) (by rw[flatF_length];omega)
   cases e1
   obtain⟨_,e1,_,_,c2,_⟩:=ho.headAt (i:=i*5+2) (by rw[flatF_length];omega)
   cases e1
   obtain⟨_,e1,_,_,c3,_⟩:=ho.headAt (i:=i*5+3) (by rw[flatF_length];omega)
   cases e1
   obtain⟨_,e1,_,_,c4,_⟩:=ho.headAt (i:=i*5+4) (by rw[flatF_length];omega)
   cases e1
   rw[flatF_get (by omega) hil] at c0 c1 c2 c3 c4
   have HSs:=Lib.hid (sumG_succ (partsF s) i)
   obtain⟨S,hS⟩:∃ S,sumG (partsF s) i=S:=⟨_,rfl⟩
   obtain⟨p,hp⟩:∃ p,partsF s i=p:=⟨_,rfl⟩
   rw[hS] at b0 b1 HSs ⊢
   rw[hp] at b2 b3 HSs c0 c1 c2 c3 c4
   obtain⟨pr,pv,pe,pb,pg⟩:=p
   have HSs:Hid (sumG (partsF s) (i+1)=S+pg):=HSs
   have b2:0≤pg:=b2
   have b3:pg≤65538:=b3
   have k0:wr.cell? ⟨gb,i*5,none⟩=some (.int .i64 pr):=c0
   have k1:wr.cell? ⟨gb,i*5+1,none⟩=some (.int .i64 pv):=c1
   have k2:wr.cell? ⟨gb,i*5+2,none⟩=some (.int .i64 pe):=c2
   have k3:wr.cell? ⟨gb,i*5+3,none⟩=some (.int .i64 pb):=c3
   have k4:wr.cell? ⟨gb,i*5+4,none⟩=some (.int .i64 pg):=c4
   clear c0 c1 c2 c3 c4 hS hp ho
   go_wp2_with fail
   go_roundg (partsN s+lone-(i+1))
   case measure=>omega
   case rel=>exact⟨i+1,by omega,by omega,by rw[HSs.out],by go_num,HEv.out.alloc _⟩
  ·obtain rfl:i=partsN s+lone:=by omega
   go_wp2_with fail
   go_ret
   rw[HA.out]
   exact⟨rfl,R1,HE.out.trans HEv.out⟩
set_option maxRecDepth 100000 in
set_option maxHeartbeats 2000000 in
theorem r8genus_any (R:Reg) (w:World) (hI:Inv R w) (v:Value) (s:List Nat) (root:Int) (lone:Nat) (hv:FreeI R w v (toI s)) (hs:IsPerm s) (hn:s.length≤131073) (he2:s.length % 2=0) (hlone:lone≤65536):
  Calls Tryz.prog 56 #[refV v root lone] w (RetE R w (.int .i64 (genusL s))):=by
 obtain⟨a0,cap0,rfl,hv⟩:=hv.open
 rw[toI_length] at hv ⊢
 have hpn:=partsN_le hs he2
 have he0:Ev R w R (w.alloc (.cells #[.slice a0 s.length cap0,.int .i64 root,.int .i64 lone] 27)):=(Ev.refl hI).alloc _
 have HP:=Lib.hid (r8parts_any R _ he0.inv _ s root lone (hv.ev he0) hs hn he2 hlone)
 have hG:=partsF_g hs he2 hn
 have HS:Hid (∀ i,i≤partsN s+lone→0≤sumG (partsF s) i∧sumG (partsF s) i≤65538*300000):=Lib.hid (fun i hi=>by have:=sumG_bound hG i;omega)
 have HG:=Lib.hid hG
 have HA:=Lib.hid (sumG_all s lone)
 have hcl:partsN s+lone≤300000:=by omega
 have HE0:=Lib.hid he0
 obtain⟨R1,hR1⟩:∃ R1,R1=R:=⟨_,rfl⟩
 rw[←hR1] at HE0 HP
 unfold refV at HP ⊢
 clear hI hv hs hG he0
 go_enter Tryz.func56,Tryz.ntmps56
 go_wp2_with fail
 refine HP.out.mono ?_
 rintro e w1 ⟨v,rfl,he,a,c,rfl,ho⟩
 have HO:=Lib.hid ho
 have HE:=Lib.hid he
 clear ho he
 go_wp2_with fail
 go_loopg [3,9] (partsN s+lone) (fun gg v3 v9 wr=>∃ i:Nat,i≤partsN s+lone∧partsN s+lone-i≤gg∧v3=.int .i64 (sumG (partsF s) i)∧v9=.int .i64 (i:Int)∧Ev R1 w1 R1 wr)
 case atStart=>exact⟨0,by omega,by omega,rfl,rfl,Ev.refl HE.out.inv⟩
 case round=>
  obtain⟨i,hi,hg,rfl,rfl,hev⟩:=hrel
  have HEv:=Lib.hid hev
  clear hev
  by_cases hil:i<partsN s+lone
  ·obtain⟨b0,b1⟩:=HS.out i (by omega)
   obtain⟨b2,b3⟩:=HG.out i
   have ho:=HO.out.ev HEv.out
   obtain⟨gb,rfl,_,_,c0,_⟩:=ho.headAt (i:=i*5+0) (by rw[flatF_length];omega)
   obtain⟨_,e1,_,_,c1,_⟩:=ho.headAt (i:=i*5+1) (by rw[flatF_length];omega)
   cases e1
   obtain⟨_,e1,_,_,c2,_⟩:=ho.headAt (i:=i*5+2) (by rw[flatF_length];omega)
   cases e1
   obtain⟨_,e1,_,_,c3,_⟩:=ho.headAt (i:=i*5+3) (by rw[flatF_length];omega)
   cases e1
   obtain⟨_,e1,_,_,c4,_⟩:=ho.headAt (i:=i*5+4) (by rw[flatF_length];omega)
   cases e1
   rw[flatF_get (by omega) hil] at c0 c1 c2 c3 c4
   have HSs:=Lib.hid (sumG_succ (partsF s) i)
   obtain⟨S,hS⟩:∃ S,sumG (partsF s) i=S:=⟨_,rfl⟩
   obtain⟨p,hp⟩:∃ p,partsF s i=p:=⟨_,rfl⟩
   rw[hS] at b0 b1 HSs ⊢
   rw[hp] at b2 b3 HSs c0 c1 c2 c3 c4
   obtain⟨pr,pv,pe,pb,pg⟩:=p
   have HSs:Hid (sumG (partsF s) (i+1)=S+pg):=HSs
   have b2:0≤pg:=b2
   have b3:pg≤65538:=b3
   have k0:wr.cell? ⟨gb,i*5,none⟩=some (.int .i64 pr):=c0
   have k1:wr.cell? ⟨gb,i*5+1,none⟩=some (.int .i64 pv):=c1
   have k2:wr.cell? ⟨gb,i*5+2,none⟩=some (.int .i64 pe):=c2
   have k3:wr.cell? ⟨gb,i*5+3,none⟩=some (.int .i64 pb):=c3
   have k4:wr.cell? ⟨gb,i*5+4,none⟩=some (.int .i64 pg):=c4
   clear c0 c1 c2 c3 c4 hS hp ho
   go_wp2_with fail
   go_roundg (partsN s+lone-(i+1))
   case measure=>omega
   case rel=>exact⟨i+1,by omega,by omega,by rw[HSs.out],by go_num,HEv.out.alloc _⟩
  ·obtain rfl:i=partsN s+lone:=by omega
   go_wp2_with fail
   go_ret
   rw[HA.out]
   subst hR1
   exact⟨rfl,HE0.out.trans (HE.out.trans HEv.out)⟩
set_option maxRecDepth 100000 in
set_option maxHeartbeats 2000000 in
theorem planar_any (R:Reg) (w:World) (hI:Inv R w) (p:Value) (s:List Nat) (root:Int) (lone:Nat) (hp:MapAt R p s root lone):
  Calls Tryz.prog 106 #[p] w (RetV R w (.bool (genusL s == 0))):=by
 have HP:=Lib.hid (egenus_any R w hI p s root lone hp)
 obtain⟨b,rfl,hb⟩:=hp
 clear hI hb
 go_enter Tryz.func106,Tryz.ntmps106
 go_wp2_with fail
 refine HP.out.mono ?_
 rintro e w1 ⟨rfl,R1,he⟩
 have HE:=Lib.hid he
 clear he
 go_wp2_with fail
 go_ret
 exact⟨rfl,R1,HE.out⟩
set_option maxRecDepth 100000 in
set_option maxHeartbeats 2000000 in
theorem connected_any (R:Reg) (w:World) (hI:Inv R w) (p:Value) (s:List Nat) (root:Int) (lone:Nat) (hp:MapAt R p s root lone):
  Calls Tryz.prog 105 #[p] w (RetV R w (.bool (decide (partsN s+lone=1)))):=by
 have HP:=Lib.hid (eparts_any R w hI p s root lone hp)
 clear hI hp
 go_enter Tryz.func105,Tryz.ntmps105
 go_wp2_with fail
 refine HP.out.mono ?_
 rintro e w1 ⟨v,R1,rfl,he,a,c,rfl,ho⟩
 have HE:=Lib.hid he
 clear he ho
 go_wp2_with fail
 go_ret
 refine⟨ret_bool ?_,R1,HE.out⟩
 by_cases h:partsN s+lone=1
 ·rw[decide_eq_true h,beq_iff_eq];omega
 ·rw[decide_eq_false h,beq_eq_false_iff_ne];omega
theorem loopsTo_succ (s:List Nat) (e:Nat):loopsTo s (e+1)=loopsTo s e+if loopB s e=true then 1 else 0:=rfl
theorem dblsTo_succ (s:List Nat) (e:Nat):dblsTo s (e+1)=dblsTo s e+if dblB s e=true then 1 else 0:=rfl
set_option maxRecDepth 100000 in
set_option maxHeartbeats 2000000 in
theorem eloops_any (R:Reg) (w:World) (hI:Inv R w) (p:Value) (s:List Nat) (root:Int) (lone:Nat) (hp:MapAt R p s root lone):
  Calls Tryz.prog 122 #[p] w (RetV R w (.int .i64 (loopsL s:Nat))):=by
 obtain⟨hs,hok⟩:=hp.ok hI
 have hn:s.length≤131073:=hok.2.1
 have HEd:=Lib.hid (edges_any R w hI p s root lone hp)
 have HVt:=Lib.hid (fun R' w' (he:Ev R w R' w') (x:Nat) (hx:x<s.length)=>by
  have:=vertex_any R' w' he.inv p s root lone (he.map hp) x
  rwa [nameI_in hx] at this)
 obtain⟨E,hE⟩:∃ E,s.length / 2=E:=⟨_,rfl⟩
 have hEn:2*E≤s.length:=by omega
 have HA:Hid (loopsL s=loopsTo s E):=Lib.hid (by unfold loopsL;rw[hE])
 rw[hE] at HEd
 have HI:=Lib.hid hI
 have HLb:=Lib.hid (fun e=>loopsTo_le s e)
 clear hI hp hs hok hE
 go_enter Tryz.func122,Tryz.ntmps122
 go_wp2_with fail
 refine HEd.out.mono ?_
 rintro e w' ⟨rfl,rfl⟩
 go_wp2_with fail
 go_loopg [3,7] E (fun gg v3 v7 wr=>∃ (e:Nat) (Re:Reg),e≤E∧E-e≤gg∧v3=.int .i64 ((loopsTo s e:Nat):Int)∧v7=.int .i64 (e:Int)∧Ev R w Re wr)
 case atStart=>exact⟨0,R,by omega,by omega,rfl,rfl,Ev.refl HI.out⟩
 case round=>
  obtain⟨e,Re,he,hg,rfl,rfl,hev⟩:=hrel
  have HE:=Lib.hid hev
  have hb:=HLb.out e
  have HSu:=Lib.hid (loopsTo_succ s e)
  obtain⟨c,hc⟩:∃ c,loopsTo s e=c:=⟨_,rfl⟩
  rw[hc] at hb HSu ⊢
  have HC:=Lib.hid hc
  clear hev hc
  by_cases heE:e<E
  ·have hc1:=HVt.out Re wr HE.out (2*e) (by omega)
   rw[show ((2*e:Nat):Int)=2*(e:Int) by omega] at hc1
   have hc2:=fun R' w' (he:Ev R w R' w')=>HVt.out R' w' he (2*e+1) (by omega)
   rw[show ((2*e+1:Nat):Int)=2*(e:Int)+1 by omega] at hc2
   have hlb:loopB s e=(nth (namesL s) (2*e) == nth (namesL s) (2*e+1)):=rfl
   obtain⟨x,hx⟩:∃ x,nth (namesL s) (2*e)=x:=⟨_,rfl⟩
   obtain⟨y,hy⟩:∃ x,nth (namesL s) (2*e+1)=x:=⟨_,rfl⟩
   rw[hx] at hc1 hlb
   rw[hy] at hc2 hlb
   have HC1:=Lib.hid hc1
   have HC2:=Lib.hid hc2
   have HLB:=Lib.hid hlb
   clear hx hy hc1 hc2 hlb
   go_wp2_with fail
   refine HC1.out.mono ?_
   rintro _ w1 ⟨rfl,R1,he1⟩
   have HE1:=Lib.hid (HE.out.trans he1)
   clear he1
   go_wp2_with fail
   refine (HC2.out R1 w1 HE1.out).mono ?_
   rintro _ w2 ⟨rfl,R2,he2⟩
   have HE2:=Lib.hid (HE1.out.trans he2)
   clear he2
   by_cases hxy:x=y
   ·have heq:(x == y)=true:=by rw[beq_iff_eq];exact hxy
    have HS2:Hid (loopsTo s (e+1)=c+1):=Lib.hid (by rw[HSu.out,HLB.out,if_pos heq])
    clear hxy
    go_wp2_with fail
    go_roundg (E-(e+1))
    case measure=>omega
    case rel=>exact⟨e+1,R2,by omega,by omega,by rw[HS2.out];go_num,by go_num,HE2.out⟩
   ·have heq:(x == y)=false:=by rw[beq_eq_false_iff_ne];exact hxy
    have HS2:Hid (loopsTo s (e+1)=c):=Lib.hid (by rw[HSu.out,HLB.out,heq];rfl)
    clear hxy
    go_wp2_with fail
    go_roundg (E-(e+1))
    case measure=>omega
    case rel=>exact⟨e+1,R2,by omega,by omega,by rw[HS2.out],by go_num,HE2.out⟩
  ·obtain rfl:e=E:=by omega
   go_wp2_with fail
   go_ret
   exact⟨ret_int (by rw[HA.out,HC.out]),Re,HE.out⟩
set_option maxRecDepth 100000 in
set_option maxHeartbeats 2000000 in
theorem r8loops_any (R:Reg) (w:World) (hI:Inv R w) (v:Value) (s:List Nat) (root lone:Int) (hv:FreeI R w v (toI s)) (hs:IsPerm s) (hn:s.length≤131073) (he2:s.length % 2=0):
  Calls Tryz.prog 57 #[refV v root lone] w (RetE R w (.int .i64 (loopsL s:Nat))):=by
 obtain⟨a0,cap0,rfl,hv⟩:=hv.open
 rw[toI_length] at hv ⊢
 have he0:Ev R w R (w.alloc (.cells #[.slice a0 s.length cap0,.int .i64 root,.int .i64 lone] 27)):=(Ev.refl hI).alloc _
 have HN:=Lib.hid (rnames_any R _ he0.inv _ s (hv.ev he0) hs (by omega))
 obtain⟨n,hl⟩:∃ n,s.length=n:=⟨_,rfl⟩
 obtain⟨E,hE⟩:∃ E,n / 2=E:=⟨_,rfl⟩
 have hEn:2*E=n:=by omega
 have HNl:Hid ((namesL s).length=n):=Lib.hid (by rw[namesL_length,hl])
 have HA:Hid (loopsL s=loopsTo s E):=Lib.hid (by unfold loopsL;rw[hl,hE])
 rw[hl] at hn HN he0 ⊢
 have HE0:=Lib.hid he0
 have HLb:=Lib.hid (fun e=>loopsTo_le s e)
 unfold refV
 clear hI hv hs hE he0 hl he2
 subst hEn
 go_enter Tryz.func57,Tryz.ntmps57
 go_wp2_with fail
 refine HN.out.mono ?_
 rintro e w1 ⟨v,rfl,he,ho⟩
 obtain⟨a,c,rfl,hf⟩:=ho.free.open
 rw[HNl.out] at hf ⊢
 have HE1:=Lib.hid he
 have HF:=Lib.hid hf
 clear he ho hf
 go_wp2_with fail
 go_loopg [3,5] E (fun gg v3 v5 wr=>∃ e:Nat,e≤E∧E-e≤gg∧v3=.int .i64 ((loopsTo s e:Nat):Int)∧v5=.int .i64 (2*(e:Int))∧Ev R w1 R wr)
 case atStart=>exact⟨0,by omega,by omega,rfl,rfl,Ev.refl HE1.out.inv⟩
 case round=>
  obtain⟨e,he,hg,rfl,rfl,hev⟩:=hrel
  have HE:=Lib.hid hev
  have hb:=HLb.out e
  have HSu:=Lib.hid (loopsTo_succ s e)
  obtain⟨c,hc⟩:∃ c,loopsTo s e=c:=⟨_,rfl⟩
  rw[hc] at hb HSu ⊢
  have HC:=Lib.hid hc
  clear hev hc
  by_cases heE:e<E
  ·obtain⟨b1,o1,e1,c1⟩:=(HF.out.ev HE.out).1.cell (i:=2*e) (by rw[HNl.out];omega)
   cases e1
   obtain⟨_,_,e1,c2⟩:=(HF.out.ev HE.out).1.cell (i:=2*e+1) (by rw[HNl.out];omega)
   cases e1
   have hlb:loopB s e=(nth (namesL s) (2*e) == nth (namesL s) (2*e+1)):=rfl
   obtain⟨x,hx⟩:∃ x,nth (namesL s) (2*e)=x:=⟨_,rfl⟩
   obtain⟨y,hy⟩:∃ x,nth (namesL s) (2*e+1)=x:=⟨_,rfl⟩
   rw[hx] at c1 hlb
   rw[hy] at c2 hlb
   obtain⟨d,hd⟩:∃ d,2*e=d:=⟨_,rfl⟩
   have hdi:2*(e:Int)=(d:Int):=by omega
   rw[hd] at c1 c2
   rw[hdi]
   have hd2:d+1<2*E:=by omega
   have HLB:=Lib.hid hlb
   have HDI:=Lib.hid hdi
   clear hx hy hlb hdi
   by_cases hxy:x=y
   ·have heq:(x == y)=true:=by rw[beq_iff_eq];exact hxy
    have HS2:Hid (loopsTo s (e+1)=c+1):=Lib.hid (by rw[HSu.out,HLB.out,if_pos heq])
    clear hxy
    go_wp2_with fail
    go_quiet (fail)
    go_wp2_with fail
    go_roundg (E-(e+1))
    case measure=>omega
    case rel=>exact⟨e+1,by omega,by omega,by rw[HS2.out];go_num,by have:=HDI.out;congr 1;omega,HE.out.drewN _⟩
   ·have heq:(x == y)=false:=by rw[beq_eq_false_iff_ne];exact hxy
    have HS2:Hid (loopsTo s (e+1)=c):=Lib.hid (by rw[HSu.out,HLB.out,heq];rfl)
    clear hxy
    go_wp2_with fail
    go_quiet (fail)
    go_wp2_with fail
    go_roundg (E-(e+1))
    case measure=>omega
    case rel=>exact⟨e+1,by omega,by omega,by rw[HS2.out],by have:=HDI.out;congr 1;omega,HE.out.drewN _⟩
  ·obtain rfl:e=E:=by omega
   go_wp2_with fail
   go_ret
   exact⟨ret_int (by rw[HA.out,HC.out]),HE0.out.trans (HE1.out.trans HE.out)⟩
end
section
open Go.RowKit
set_option linter.unusedVariables false
end
section
open Go.RowKit
set_option linter.unusedVariables false
theorem make_eq {n:Nat} {z:Value} {t e:TypeId} {i:TypeInfo} (h1:Tryz.prog.underlying t=some (.slice e)) (h2:Tryz.prog.info? e=some i) (h3:i.zero=some z) (h4:i.size=1) (b2:i.bytes*n≤281474976710656) (b3:n≤maxLen) (W:World):
  (Instr.makeSlice t (.int .i64 (n:Int)) (.int .i64 (n:Int))).run Tryz.prog W=.ok (.slice (some ⟨W.heap.size,0,none⟩) n n) (W.alloc (.cells (madeCells z.cells (n*1)) e)):=by
 have h63':(n:Int)≤9223372036854775807:=by
  have h:=b3
  simp[maxLen] at h
  omega
 have hb':(i.bytes:Int)*(n:Int)≤281474976710656:=by
  have h:((i.bytes*n:Nat):Int)≤281474976710656:=by omega
  rwa [Int.natCast_mul] at h
 have hr:=run_make (P:=Tryz.prog) W t e i z h1 h2 h3 .i64 .i64 n n (by omega) (Int.le_refl _) hb' h63'
 simp only[Int.toNat_natCast,h4] at hr
 exact hr
theorem OwnV.madeAt {R:Reg} {w1:World} {B:Nat} {E:TypeId} {g n:Nat} {z:Value} (hg:R g=none) (ho:w1.ownsRow B E 1 (.slice (some ⟨g,0,none⟩) n n) n (madeCells #[z] (n*1)).toList):
  OwnV R B E 1 w1 (.slice (some ⟨g,0,none⟩) n n) n (List.replicate n z):=by
 refine⟨?_,fun k hk=>?_⟩
 ·rw[Nat.mul_one,toList_madeCells_one] at ho
  exact ho
 ·simp only[Value.ownBlock,Option.some.injEq] at hk
  rw[←hk];exact hg
theorem rowI_made {R:Reg} {W:World} {B n:Nat} (hI:Inv R W) (hB:B≤W.heap.size) (hn:n≤maxLen):
  OwnI R B 3 (W.alloc (.cells (madeCells #[.int .i64 0] (n*1)) 3)) (.slice (some ⟨W.heap.size,0,none⟩) n n) (List.replicate n 0):=by
 have h:=World.ownsRow_lit (size:=1) (e:=3) W _ n hB hn (size_madeCells #[.int .i64 0] (n*1))
 exact OwnI.made hI (by simpa using h)
end
section
open Go.RowKit
set_option linter.unusedVariables false
end
section
open Go.RowKit
set_option linter.unusedVariables false
end
section
open Go.RowKit
set_option linter.unusedVariables false
end
section
open Go.RowKit
set_option linter.unusedVariables false
theorem dis_ne {u v:Value} (h:∀ k,u.ownBlock=some k→v.ownBlock≠some k):v.ownBlock=none∨v.ownBlock≠u.ownBlock:=by
 cases hu:u.ownBlock with
 | none=>
  cases hv:v.ownBlock with
  | none=>exact Or.inl rfl
  | some k=>exact Or.inr (by simp)
 | some k=>exact Or.inr (h k hu)
end
end Go.Proofs.YtgphnkkdmlohlaaGreatDoor
