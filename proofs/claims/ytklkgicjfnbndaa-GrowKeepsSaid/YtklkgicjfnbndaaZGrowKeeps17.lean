/- euler.Parts: a map's parts. -/
import Derived.Test.YtklkgicjfnbndaaZGrowKeeps16
import Derived.Deep.DeepCutAuto
import Derived.BigRegion
import Derived.Test.YtklkgicjfnbndaaZGrowKeeps15
import Derived.Deep.QuietTactic
import Derived.BigQuiet
namespace Go.Proofs.Ytklkgicjfnbndaa
section
open Go.RowKit
set_option linter.unusedVariables false
def partC (p:PartR):List Value:=[.int .i64 p.root,.int .i64 p.v,.int .i64 p.e,.int .i64 p.b,.int .i64 p.g]
def flatF (f:Nat→PartR):Nat→List Value
 | 0=>[]
 | C+1=>flatF f C ++ partC (f C)
theorem flatF_length (f:Nat→PartR):∀ C,(flatF f C).length=C*5
 | 0=>rfl
 | C+1=>by unfold flatF;rw[List.length_append,flatF_length f C];show _+5=_;omega
theorem flatF_congr {f g:Nat→PartR}:∀ {C:Nat},(∀ i,i<C→f i=g i)→flatF f C=flatF g C
 | 0,_=>rfl
 | C+1,h=>by unfold flatF;rw[flatF_congr fun i hi=>h i (by omega),h C (by omega)]
theorem flatF_get {f:Nat→PartR} {k c:Nat} (hc:c<5):∀ {C:Nat},k<C→(flatF f C)[k*5+c]?=(partC (f k))[c]?
 | C+1,hk=>by
  unfold flatF
  by_cases e:k=C
  ·subst e
   rw[List.getElem?_append_right (by rw[flatF_length];omega),flatF_length,Nat.add_sub_cancel_left]
  ·rw[List.getElem?_append_left (by rw[flatF_length];omega),flatF_get hc (by omega)]
theorem flatF_set {f g:Nat→PartR} {k c:Nat} {u:Value} (hc:c<5) (hk':partC (g k)=(partC (f k)).set c u):∀ {C:Nat},k<C→(∀ i,i<C→i≠k→g i=f i)→(flatF f C).set (k*5+c) u=flatF g C
 | C+1,hk,h=>by
  unfold flatF
  by_cases e:k=C
  ·subst e
   rw[List.set_append_right _ _ (by rw[flatF_length];omega),flatF_length,Nat.add_sub_cancel_left,hk',flatF_congr fun i hi=>(h i (by omega) (by omega)).symm]
  ·rw[List.set_append_left _ _ (by rw[flatF_length];omega),flatF_set hc hk' (by omega) fun i hi=>h i (by omega),h C (by omega) (fun e'=>e e'.symm)]
theorem new_cells (w:World) (l:List Value) (T:TypeId) (j:Nat) (u:Value) (h:l[j]?=some u):(w.alloc (.cells l.toArray T)).cell? ((⟨w.heap.size,0,none⟩:Addr).add j)=some u:=by
 have hadd:(⟨w.heap.size,0,none⟩:Addr).add j=⟨w.heap.size,j,none⟩:=by unfold Addr.add;split <;> simp_all
 rw[hadd]
 simp[h]
def OwnPs (R:Reg) (B:Nat) (w:World) (v:Value) (C:Nat) (f:Nat→PartR):Prop:=
 ∃ a cap,v=.slice a C cap∧OwnV R B 85 5 w (.slice a C cap) C (flatF f C)
theorem part_info:(Try.prog.info? 85).map (fun i=>(i.zero,i.size,i.bytes))=some (some (.agg #[.int .i64 0,.int .i64 0,.int .i64 0,.int .i64 0,.int .i64 0]),5,40):=by kernel_rfl
def partsF (s:List Nat) (k:Nat):PartR:=if k<partsN s then partF s k else loneR
def RetParts (R:Reg) (w:World) (C:Nat) (f:Nat→PartR) (e:Ending) (w':World):Prop:=∃ v R',e=.returned v∧Ev R w R' w'∧OwnPs R' w.heap.size w' v C f
theorem vcnt_none {t:List Nat} {N:List Int} {k:Int}:∀ {j:Nat},(∀ i,i<j→nth N i≠k)→vcnt t N k j=0
 | 0,_=>rfl
 | j+1,h=>by rw[vcnt_succ,vcnt_none fun i hi=>h i (by omega),if_neg (fun h'=>h j (by omega) h'.1)]
theorem ecnt_none {N:List Int} {k:Int}:∀ {j:Nat},(∀ i,i<j→nth N i≠k)→ecnt N k j=0
 | 0,_=>rfl
 | j+1,h=>by rw[ecnt_succ,ecnt_none fun i hi=>h i (by omega),if_neg (h j (by omega))]
def putV (f:Nat→PartR) (k:Nat) (i:Nat):PartR:=if i=k then { f i with v:=(f i).v+1 } else f i
def putB (f:Nat→PartR) (k:Nat) (i:Nat):PartR:=if i=k then { f i with b:=(f i).b+1 } else f i
def putE (f:Nat→PartR) (k:Nat) (x:Int) (i:Nat):PartR:=if i=k then { f i with e:=(f i).e+x } else f i
def stepV (s:List Nat) (j:Nat) (f:Nat→PartR) (k:Nat):Nat→PartR:=if leadB s j=true then putV f k else f
def stepB (s:List Nat) (j:Nat) (f:Nat→PartR) (k:Nat):Nat→PartR:=if leadB s j=true then putB f k else f
theorem part_step {s:List Nat} {N:List Int} {j k:Nat} (hk:nth N j=(k:Int)) (i:Nat):
  putE (stepB (phiL s) j (stepV s j (partAt s N 0 j) k) k) k ((j % 2:Nat):Int) i=partAt s N 0 (j+1) i:=by
 unfold partAt
 rw[vcnt_succ,vcnt_succ,ecnt_succ,hk]
 by_cases e:i=k
 ·subst e
  unfold putE stepB stepV
  by_cases h1:leadB s j=true <;> by_cases h2:leadB (phiL s) j=true <;> simp[h1,h2,putV,putB]
 ·have e':¬ (k:Int)=(i:Int):=by omega
  unfold putE stepB stepV
  by_cases h1:leadB s j=true <;> by_cases h2:leadB (phiL s) j=true <;> simp[h1,h2,putV,putB,e,e']
set_option maxRecDepth 100000 in
set_option maxHeartbeats 4000000 in
theorem eparts_any (R:Reg) (w:World) (hI:Inv R w) (p:Value) (s:List Nat) (root:Int) (lone:Nat) (hp:MapAt R p s root lone):
  Calls Try.prog 21 #[p] w (RetParts R w (partsN s+lone) (partsF s)):=by
 obtain⟨hS,hok⟩:=hp.ok hI
 have he2:s.length % 2=0:=hok.1
 have hn:s.length≤131073:=hok.2.1
 have hlone:lone≤65536:=by have:=hok.2.2;omega
 have hNm:=enames_any R w hI p s root lone hp
 obtain⟨n,hl⟩:∃ n,s.length=n:=⟨_,rfl⟩
 have HVt:=Lib.hid (fun R' w' (he:Ev R w R' w') (x:Nat) (hx:x<n)=>by
  have:=vertex_any R' w' he.inv p s root lone (he.map hp) x
  rwa [nameI_in (by omega)] at this)
 have HFc:=Lib.hid (fun R' w' (he:Ev R w R' w') (x:Nat) (hx:x<n)=>by
  have:=face_any R' w' he.inv p s root lone (he.map hp) x
  rwa [nameI_in (by rw[phiL_length];omega)] at this)
 have HLo:=Lib.hid (fun R' w' (he:Ev R w R' w')=>lone_any R' w' he.inv p s root lone (he.map hp))
 have HOrd:=Lib.hid (partsL_ord hS he2)
 have HGen:=Lib.hid (fun (k:Nat) (hk:k<partsN s)=>genOf_euler hS he2 hk)
 have HCs:=Lib.hid (fun k (hk:k<n)=>names_next hS (k:=k) (by omega))
 have HCp:=Lib.hid (fun k (hk:k<n)=>names_next (phiL_perm hS he2) (k:=k) (by rw[phiL_length];omega))
 have HB1:=Lib.hid (fun k=>namesGo_count s k)
 have HB2:=Lib.hid (fun k=>namesGo_count (phiL s) k)
 rw[hl] at HOrd
 have HPN:Hid ((partsGo s n).2=partsN s):=Lib.hid (by unfold partsN;rw[hl])
 have HL:=Lib.hid hl
 have HI:=Lib.hid hI
 have HNm:=Lib.hid hNm
 rw[hl] at hn
 clear hI hS hok hNm hl he2
 obtain⟨N,hN⟩:∃ N,partsL s=N:=⟨_,rfl⟩
 rw[hN] at HNm HOrd HGen
 have HN:=Lib.hid hN
 clear hN
 obtain⟨cnt,hcnt⟩:∃ c:Nat→Nat,(fun k=>(partsGo s k).2)=c:=⟨_,rfl⟩
 rw[hcnt] at HOrd
 have HCN:Hid (cnt n=partsN s):=Lib.hid (by rw[←hcnt];exact HPN.out)
 clear HPN hcnt
 go_enter Try.func21,Try.ntmps21
 go_wp2_with fail
 refine HNm.out.mono ?_
 rintro e w1 ⟨vN,rfl,he1,ho1⟩
 obtain⟨aN,cN,rfl,hf1⟩:=ho1.free.open
 rw[HOrd.out.len] at hf1 ⊢
 have HE1:=Lib.hid he1
 have HF1:=Lib.hid hf1
 clear he1 ho1 hf1
 go_wp2_with fail
 go_loopg [3,4,5,14] n (fun g v3 v4 v5 v14 wr=>∃ (j:Nat) (Rj:Reg),j≤n∧n-j≤g∧v4=.int .i64 (((namesGo s j).2:Nat):Int)∧v5=.int .i64 (((namesGo (phiL s) j).2:Nat):Int)∧v14=.int .i64 (j:Int)∧Ev R w1 Rj wr∧OwnPs Rj w1.heap.size wr v3 (cnt j) (partAt s N 0 j))
 case atStart=>exact⟨0,R,Nat.zero_le _,by omega,rfl,rfl,rfl,Ev.refl HE1.out.inv,by rw[HOrd.out.zero];exact⟨none,0,rfl,OwnV.nil R _ _ _ _⟩⟩
 case round=>
  obtain⟨j,Rj,hj,hg,rfl,rfl,rfl,he,ho⟩:=hrel
  have HE:=Lib.hid he
  have HO:=Lib.hid ho
  clear he ho
  by_cases hjn:j<n
  ·have hb:=HOrd.out.bound hjn
   have hcle:=HOrd.out.cnt_le (k:=j+1) (by omega)
   have hcle0:=HOrd.out.cnt_le (k:=j) (by omega)
   obtain⟨bN,oN,e1,hcN⟩:=(HF1.out.ev HE.out).1.cell (i:=j) (by rw[HOrd.out.len];exact hjn)
   subst e1
   have hor:=HOrd.out.ord j hjn
   have hfst:=fun e=>HOrd.out.first hjn e
   obtain⟨k,hk⟩:=Int.eq_ofNat_of_zero_le hb.1
   have HK:=Lib.hid hk
   rw[hk] at hcN hb hor hfst
   obtain⟨v,hv⟩:∃ v,(namesGo s j).2=v:=⟨_,rfl⟩
   obtain⟨f,hf⟩:∃ f,(namesGo (phiL s) j).2=f:=⟨_,rfl⟩
   have hvb:v≤j:=by have:=HB1.out j;omega
   have hfb:f≤j:=by have:=HB2.out j;omega
   have HV:=Lib.hid hv
   have HF:=Lib.hid hf
   rw[hv,hf]
   obtain⟨a3,c3,rfl,ho3⟩:=HO.out
   have HO3:=Lib.hid ho3
   obtain⟨q,hq⟩:∃ q,cnt j=q:=⟨_,rfl⟩
   obtain⟨q1,hq1⟩:∃ q,cnt (j+1)=q:=⟨_,rfl⟩
   rw[hq,hq1] at hor
   rw[hq1] at hb hcle
   rw[hq] at HO3 hcle0 hfst ⊢
   have hkq:k<q1:=by omega
   have HQ:=Lib.hid hq
   have HQ1:=Lib.hid hq1
   have HFst:=Lib.hid hfst
   clear hk hv hf ho3 hq hq1 HO hb hfst
   go_upto_if 22 with fail
   go_cut [3] (fun s3 wx=>∃ (a:Option Addr) (c:Nat),s3=.slice a q1 c∧Ev R w1 Rj wx∧OwnV Rj w1.heap.size 85 5 wx (.slice a q1 c) q1 (flatF (partAt s N 0 j) q1))
   case first=>
    by_cases hnew:k=q
    ·subst hnew
     obtain rfl:q1=k+1:=by omega
     have e0:partAt s N 0 j k=⟨(j:Int),0,0,0,0⟩:=by
      have hf:=HFst.out rfl
      unfold partAt
      rw[rootOf_eq (j:=j) (by rw[HOrd.out.len];exact hjn) HK.out hf,vcnt_none hf,vcnt_none hf,ecnt_none hf]
      rfl
     have HE0:=Lib.hid e0
     have ho4:=HO3.out.alloc (.cells #[.int .i64 (j:Int),.int .i64 0,.int .i64 0,.int .i64 0,.int .i64 0] 85)
     have he4:=HE.out.alloc (.cells #[.int .i64 (j:Int),.int .i64 0,.int .i64 0,.int .i64 0,.int .i64 0] 85)
     have HO4:=Lib.hid ho4
     have HE4:=Lib.hid he4
     have hsz:=HE.out.size
     clear e0 ho4 he4
     go_wp2_with (at_builtin;refine wpList_app_row 48 85 5 40 _ Try.underlying48 part_info rfl (by omega) (by omega) (R:=Rj) (B:=w1.heap.size) rfl _ _ rfl HO4.out rfl ⟨wr.heap.size,0,none⟩ 1 1 (partC ⟨(j:Int),0,0,0,0⟩) rfl rfl ?g1 ?g2 ?g3 ?g4 ?g5 ?_)
     case g1=>exact fun _ _ h=>h
     case g2=>
      intro u hu
      simp only[partC,List.mem_cons,List.not_mem_nil,or_false] at hu
      rcases hu with rfl|rfl|rfl|rfl|rfl <;> rfl
     case g3=>omega
     case g4=>omega
     case g5=>exact fun q hq=>HE4.out.inv.none_of_ge (by simp at hq ⊢;omega)
     intro v' w5 ho5 hg5 _
     have HE5:=Lib.hid (HE4.out.appV HO4.out (Nat.le_refl _) hg5)
     have HO5:=Lib.hid ho5
     clear ho5 hg5
     go_wp2_with fail
     go_meet
     have ho6:=HO5.out
     obtain⟨a6,c6,rfl,_⟩:=ho6.open
     rw[←HE0.out] at ho6
     exact⟨a6,c6,rfl,HE5.out,ho6⟩
    ·obtain rfl:q1=q:=by omega
     go_wp2_with fail
     go_meet
     exact⟨a3,c3,rfl,HE.out,HO3.out⟩
   case rest=>
    obtain⟨a,c,rfl,he,ho⟩:=hcut
    obtain⟨gb,rfl,hgb,hgn,hc,hz⟩:=ho.headAt (i:=k*5+1) (by rw[flatF_length];omega)
    rw[flatF_get (by omega) hkq] at hc
    have HE5:=Lib.hid he
    have HO5:=Lib.hid ho
    clear he ho hcN HO3 HE
    clear hc
    go_wp2_with fail
    refine (HVt.out Rj wc (HE1.out.trans HE5.out) j hjn).mono ?_
    rintro e w6 ⟨rfl,R6,he6⟩
    have HE6:=Lib.hid (HE5.out.trans he6)
    have HO6:=Lib.hid (HO5.out.ev he6)
    have hcs:=HCs.out j hjn
    have hld:leadB s j=(nth (namesL s) j == (((namesGo s j).2:Nat):Int)):=rfl
    rw[HV.out] at hcs hld
    obtain⟨x,hx⟩:∃ x,nth (namesL s) j=x:=⟨_,rfl⟩
    obtain⟨v1,hv1⟩:∃ x,(namesGo s (j+1)).2=x:=⟨_,rfl⟩
    rw[hx] at hcs hld ⊢
    rw[hv1] at hcs
    have HLD:=Lib.hid hld
    have HV1:=Lib.hid hv1
    have HX:=Lib.hid hx
    clear he6 HE5 HO5 hld hv1 hx
    go_upto_if 35 with fail
    go_cut [4] (fun s4 wx=>s4=.int .i64 (v1:Int)∧Ev R w1 R6 wx∧OwnV R6 w1.heap.size 85 5 wx (.slice (some ⟨gb,0,none⟩) q1 c) q1 (flatF (stepV s j (partAt s N 0 j) k) q1))
    case first=>
     by_cases hxv:x=(v:Int)
     ·subst hxv
      obtain rfl:v1=v+1:=by omega
      have hl:leadB s j=true:=by rw[HLD.out];simp
      obtain⟨gb',e1,_,hgn6,hc0,hz⟩:=HO6.out.headAt (i:=k*5+1) (by rw[flatF_length];omega)
      cases e1
      rw[flatF_get (by omega) hkq] at hc0
      obtain⟨y,hy⟩:∃ y,vcnt s N (k:Int) j=y:=⟨_,rfl⟩
      have hc:w6.cell? ⟨gb,k*5+1,none⟩=some (.int .i64 (y:Int)):=by rw[←hy];exact hc0
      have hyb:y≤j:=by rw[←hy];exact vcnt_le s N k j
      have hst:=HO6.out.put (k*5+1) (.int .i64 ((y:Int)+1))
      rw[flatF_set (f:=partAt s N 0 j) (g:=stepV s j (partAt s N 0 j) k) (by omega) (by
       rw[stepV,if_pos hl,←hy]
       simp[putV,partC,partAt]) hkq (fun i _ hi=>by rw[stepV,if_pos hl];simp[putV,hi])] at hst
      have HST:=Lib.hid hst
      have HSE:=Lib.hid (HE6.out.setCell (p:=⟨gb,k*5+1,none⟩) hgb hgn6 (.int .i64 ((y:Int)+1)))
      clear hst hl hy hcs hor hc0
      go_wp2_with fail
      go_meet
      exact⟨by go_num,HSE.out,HST.out⟩
     ·have hl:¬ leadB s j=true:=by rw[HLD.out];simpa using hxv
      obtain rfl:v1=v:=by omega
      have HST:=HO6.out
      rw[show partAt s N 0 j=stepV s j (partAt s N 0 j) k by rw[stepV,if_neg hl]] at HST
      have HST:=Lib.hid HST
      clear hl hcs hor
      go_wp2_with fail
      go_meet
      exact⟨rfl,HE6.out,HST.out⟩
    case rest=>
     obtain⟨rfl,he,ho⟩:=hcut
     have HE7:=Lib.hid he
     have HO7:=Lib.hid ho
     clear he ho hcs
     go_wp2_with fail
     refine (HFc.out R6 wc (HE1.out.trans HE7.out) j hjn).mono ?_
     rintro e w8 ⟨rfl,R8,he8⟩
     have HE8:=Lib.hid (HE7.out.trans he8)
     have HO8:=Lib.hid (HO7.out.ev he8)
     have hcs:=HCp.out j hjn
     have hld:leadB (phiL s) j=(nth (namesL (phiL s)) j == (((namesGo (phiL s) j).2:Nat):Int)):=rfl
     rw[HF.out] at hcs hld
     obtain⟨x,hx⟩:∃ x,nth (namesL (phiL s)) j=x:=⟨_,rfl⟩
     obtain⟨f1,hf1⟩:∃ x,(namesGo (phiL s) (j+1)).2=x:=⟨_,rfl⟩
     rw[hx] at hcs hld ⊢
     rw[hf1] at hcs
     have HLE:=Lib.hid hld
     have HF1':=Lib.hid hf1
     obtain⟨h0,hh0⟩:∃ h,stepV s j (partAt s N 0 j) k=h:=⟨_,rfl⟩
     rw[hh0] at HO8
     have hb0:(h0 k).b=((vcnt (phiL s) N (k:Int) j:Nat):Int)∧(h0 k).e=((ecnt N (k:Int) j:Nat):Int):=by
      rw[←hh0]
      unfold stepV
      split <;> simp[putV,partAt]
     have HH0:=Lib.hid hh0
     have HB0:=Lib.hid hb0
     clear he8 HE7 HO7 hld hf1 hx hh0 hb0
     go_upto_if 49 with fail
     go_cut [5] (fun s5 wx=>s5=.int .i64 (f1:Int)∧Ev R w1 R8 wx∧OwnV R8 w1.heap.size 85 5 wx (.slice (some ⟨gb,0,none⟩) q1 c) q1 (flatF (stepB (phiL s) j h0 k) q1))
     case first=>
      by_cases hxv:x=(f:Int)
      ·subst hxv
       obtain rfl:f1=f+1:=by omega
       have hl:leadB (phiL s) j=true:=by rw[HLE.out];simp
       obtain⟨gb',e1,_,hgn6,hc0,hz⟩:=HO8.out.headAt (i:=k*5+3) (by rw[flatF_length];omega)
       cases e1
       rw[flatF_get (by omega) hkq] at hc0
       obtain⟨y,hy⟩:∃ y,vcnt (phiL s) N (k:Int) j=y:=⟨_,rfl⟩
       have hc:w8.cell? ⟨gb,k*5+3,none⟩=some (.int .i64 (y:Int)):=by rw[←hy,hc0,←HB0.out.1];rfl
       have hyb:y≤j:=by rw[←hy];exact vcnt_le (phiL s) N k j
       have hst:=HO8.out.put (k*5+3) (.int .i64 ((y:Int)+1))
       rw[flatF_set (f:=h0) (g:=stepB (phiL s) j h0 k) (by omega) (by
        rw[stepB,if_pos hl,←hy,←HB0.out.1]
        simp[putB,partC]) hkq (fun i _ hi=>by rw[stepB,if_pos hl];simp[putB,hi])] at hst
       have HST:=Lib.hid hst
       have HSE:=Lib.hid (HE8.out.setCell (p:=⟨gb,k*5+3,none⟩) hgb hgn6 (.int .i64 ((y:Int)+1)))
       clear hst hl hy hcs hor hc0
       go_wp2_with fail
       go_meet
       exact⟨by go_num,HSE.out,HST.out⟩
      ·have hl:¬ leadB (phiL s) j=true:=by rw[HLE.out];simpa using hxv
       obtain rfl:f1=f:=by omega
       have HST:=HO8.out
       rw[show h0=stepB (phiL s) j h0 k by rw[stepB,if_neg hl]] at HST
       have HST:=Lib.hid HST
       clear hl hcs hor
       go_wp2_with fail
       go_meet
       exact⟨rfl,HE8.out,HST.out⟩
     case rest=>
      obtain⟨rfl,he,ho⟩:=hcut
      have HE9:=Lib.hid he
      obtain⟨gb',e1,_,hgn6,hc0,hz⟩:=ho.headAt (i:=k*5+2) (by rw[flatF_length];omega)
      cases e1
      rw[flatF_get (by omega) hkq] at hc0
      obtain⟨y,hy⟩:∃ y,ecnt N (k:Int) j=y:=⟨_,rfl⟩
      have e0:(stepB (phiL s) j h0 k k).e=(y:Int):=by
       rw[←hy,←HB0.out.2]
       unfold stepB
       split <;> simp[putB]
      have hc:wc.cell? ⟨gb,k*5+2,none⟩=some (.int .i64 (y:Int)):=by rw[hc0,←e0];rfl
      have hyb:y≤j:=by rw[←hy];exact ecnt_le N k j
      have hst:=ho.put (k*5+2) (.int .i64 ((y:Int)+(j:Int) % 2))
      rw[flatF_set (f:=stepB (phiL s) j h0 k) (g:=putE (stepB (phiL s) j h0 k) k ((j % 2:Nat):Int)) (by omega) (by
       simp only[putE,if_true,partC,e0]
       rw[show ((j % 2:Nat):Int)=(j:Int) % 2 by omega]
       rfl) hkq (fun i _ hi=>by simp[putE,hi]),flatF_congr (g:=partAt s N 0 (j+1)) (fun i _=>by rw[←HH0.out];exact part_step HK.out i)] at hst
      have HST:=Lib.hid hst
      have HSE:=Lib.hid (he.setCell (p:=⟨gb,k*5+2,none⟩) hgb hgn6 (.int .i64 ((y:Int)+(j:Int) % 2)))
      clear hst hc0 e0 hcs hor ho he hy
      go_wp2_with fail
      go_roundg (n-(j+1))
      case measure=>omega
      case rel=>
       exact⟨j+1,R8,by omega,by omega,by rw[HV1.out],by rw[HF1'.out],by go_num,HSE.out,by rw[HQ1.out];exact⟨_,_,rfl,HST.out⟩⟩
  ·obtain rfl:j=n:=by omega
   obtain⟨a3,c3,rfl,ho3⟩:=HO.out
   have HO3:=Lib.hid ho3
   have hcle:=HOrd.out.cnt_le (Nat.le_refl j)
   rw[HCN.out] at HO3 hcle ⊢
   obtain⟨C,hC⟩:∃ C,partsN s=C:=⟨_,rfl⟩
   rw[hC] at HO3 hcle ⊢
   have HC:=Lib.hid hC
   obtain⟨F,hF⟩:∃ F:Nat→PartR,F=fun k=>if k<C then partF s k else loneR:=⟨_,rfl⟩
   have HFe:=Lib.hid hF
   have HFp:Hid (partsF s=F):=Lib.hid (by rw[hF];funext k;unfold partsF;rw[hC])
   have hbase:∀ k,k<C→F k={ partAt s N 0 j k with g:=genOf s N k }:=fun k hk=>by
    rw[hF]
    show (if k<C then partF s k else loneR)=_
    rw[if_pos hk]
    unfold partF
    rw[HN.out,HL.out]
    rfl
   have HBs:=Lib.hid hbase
   have HGn:Hid (∀ k,k<C→0≤genOf s N k∧genOf s N k=(2-(vcnt s N (k:Int) j:Nat)+(ecnt N (k:Int) j:Nat)-(vcnt (phiL s) N (k:Int) j:Nat)) / 2∧((vcnt s N (k:Int) j:Nat):Int)-(ecnt N (k:Int) j:Nat)+(vcnt (phiL s) N (k:Int) j:Nat)=2-2*genOf s N k):=Lib.hid (fun k hk=>by
    have h:=HGen.out k (by rw[HC.out];exact hk)
    have h2:genOf s N k=(2-(vcnt s N (k:Int) s.length:Nat)+(ecnt N (k:Int) s.length:Nat)-(vcnt (phiL s) N (k:Int) s.length:Nat)) / 2:=rfl
    rw[HL.out] at h
    rw[HL.out] at h2
    exact⟨h.1,h2,h.2⟩)
   obtain⟨wj,hwj⟩:∃ wj:World,wj=wr:=⟨_,rfl⟩
   subst hwj
   obtain⟨n,hnj⟩:∃ n,n=j:=⟨_,rfl⟩
   subst hnj
   clear hF hC hbase ho3 hjn hg hj HO
   go_wp2_with fail
   go_loopg [71] C (fun g v71 wr=>∃ i:Nat,i≤C∧C-i≤g∧v71=.int .i64 (i:Int)∧Ev R w1 Rj wr∧OwnV Rj w1.heap.size 85 5 wr (.slice a3 C c3) C (flatF (fun k=>if k<i then F k else partAt s N 0 n k) C))
   case atStart=>exact⟨0,Nat.zero_le _,by omega,rfl,HE.out,by simpa using HO3.out⟩
   case round=>
    obtain⟨i,hi,hg,rfl,he,ho⟩:=hrel
    have HEi:=Lib.hid he
    have HOi:=Lib.hid ho
    clear he ho
    by_cases hiC:i<C
    ·obtain⟨V,hV⟩:∃ V,vcnt s N (i:Int) n=V:=⟨_,rfl⟩
     obtain⟨E,hE⟩:∃ V,ecnt N (i:Int) n=V:=⟨_,rfl⟩
     obtain⟨B,hB⟩:∃ V,vcnt (phiL s) N (i:Int) n=V:=⟨_,rfl⟩
     obtain⟨g0,hg0⟩:∃ V,genOf s N i=V:=⟨_,rfl⟩
     have hgn:=HGn.out i hiC
     have hVb:=vcnt_le s N (i:Int) n
     have hEb:=ecnt_le N (i:Int) n
     have hBb:=vcnt_le (phiL s) N (i:Int) n
     have hr0:(if i<i then F i else partAt s N 0 n i)=⟨(rootOf N (i:Int):Nat),(V:Int),(E:Int),(B:Int),0⟩:=by
      rw[if_neg (Nat.lt_irrefl _),←hV,←hE,←hB]
      rfl
     have hFi:F i=⟨(rootOf N (i:Int):Nat),(V:Int),(E:Int),(B:Int),g0⟩:=by
      rw[HBs.out i hiC,←hV,←hE,←hB,←hg0]
      rfl
     rw[hV,hE,hB,hg0] at hgn
     rw[hV] at hVb
     rw[hE] at hEb
     rw[hB] at hBb
     obtain⟨gb,rfl,hgb,hgnn,h1,_⟩:=HOi.out.headAt (i:=i*5+1) (by rw[flatF_length];omega)
     obtain⟨_,e2,_,_,h2,_⟩:=HOi.out.headAt (i:=i*5+2) (by rw[flatF_length];omega)
     cases e2
     obtain⟨_,e3,_,_,h3,_⟩:=HOi.out.headAt (i:=i*5+3) (by rw[flatF_length];omega)
     cases e3
     obtain⟨_,e4,_,_,h4,hz⟩:=HOi.out.headAt (i:=i*5+4) (by rw[flatF_length];omega)
     cases e4
     rw[flatF_get (by omega) hiC,hr0] at h1 h2 h3 h4
     have c1:wr.cell? ⟨gb,i*5+1,none⟩=some (.int .i64 (V:Int)):=h1
     have c2:wr.cell? ⟨gb,i*5+2,none⟩=some (.int .i64 (E:Int)):=h2
     have c3:wr.cell? ⟨gb,i*5+3,none⟩=some (.int .i64 (B:Int)):=h3
     have c4:wr.cell? ⟨gb,i*5+4,none⟩=some (.int .i64 0):=h4
     have hst:=HOi.out.put (i*5+4) (.int .i64 g0)
     rw[flatF_set (g:=fun k=>if k<i+1 then F k else partAt s N 0 n k) (by omega) (by
      rw[hr0]
      show partC (if i<i+1 then F i else _)=_
      rw[if_pos (by omega),hFi]
      rfl) hiC (fun k _ hk=>by
      show (if k<i+1 then F k else partAt s N 0 n k)=if k<i then F k else partAt s N 0 n k
      by_cases h:k<i
      ·rw[if_pos h,if_pos (by omega)]
      ·rw[if_neg h,if_neg (by omega)])] at hst
     have HST:=Lib.hid hst
     have HSE:=Lib.hid (HEi.out.setCell (p:=⟨gb,i*5+4,none⟩) hgb hgnn (.int .i64 g0))
     obtain⟨ha,hb,hd⟩:=hgn
     have hq:0≤2-(V:Int)+(E:Int)-(B:Int):=by omega
     have HG0:=Lib.hid hb
     clear hst h1 h2 h3 h4 hV hE hB hg0 hr0 hFi hd hb
     go_wp2_with fail
     go_region
     all_goals go_wp2
     go_roundg (C-(i+1))
     case measure=>omega
     case rel=>
      have h1:=HSE.out
      have h2:=HST.out
      rw[HG0.out] at h1 h2
      exact⟨i+1,by omega,by omega,by go_num,h1.drew,h2.drew⟩
    ·obtain rfl:i=C:=by omega
     have ho:=HOi.out
     rw[flatF_congr (g:=F) fun k hk=>by show (if k<i then F k else _)=_;rw[if_pos hk]] at ho
     have HL:=HLo.out Rj wr (HE1.out.trans HEi.out)
     have HL:=Lib.hid HL
     have HO:=Lib.hid ho
     have hlone:∀ k,i≤k→F k=loneR:=fun k hk=>by
      rw[HFe.out]
      show (if k<i then _ else _)=_
      rw[if_neg (by omega)]
     have HLn:=Lib.hid hlone
     obtain⟨wj2,hwj⟩:∃ wj:World,wj=wr:=⟨_,rfl⟩
     subst hwj
     obtain⟨C,hCi⟩:∃ n,n=i:=⟨_,rfl⟩
     subst hCi
     clear ho hlone hiC hi hg
     go_wp2_with fail
     refine HL.out.mono ?_
     rintro e w' ⟨rfl,rfl⟩
     go_wp2_with fail
     go_loopg [3,99] lone (fun g v3 v99 wr=>∃ i:Nat,i≤lone∧lone-i≤g∧v99=.int .i64 (i:Int)∧Ev R w1 Rj wr∧OwnPs Rj w1.heap.size wr v3 (C+i) F)
     case atStart=>exact⟨0,Nat.zero_le _,by omega,rfl,HEi.out,_,_,rfl,HO.out⟩
     case round=>
      obtain⟨i,hi,hg,rfl,he,a3,c3,rfl,ho⟩:=hrel
      have HEx:=Lib.hid he
      have HOx:=Lib.hid ho
      clear he ho
      by_cases hil:i<lone
      ·have ho4:=HOx.out.alloc (.cells #[.int .i64 (-1),.int .i64 1,.int .i64 0,.int .i64 1,.int .i64 0] 85)
       have he4:=HEx.out.alloc (.cells #[.int .i64 (-1),.int .i64 1,.int .i64 0,.int .i64 1,.int .i64 0] 85)
       have HO4:=Lib.hid ho4
       have HE4:=Lib.hid he4
       have hsz:=HEx.out.size
       clear ho4 he4
       go_wp2_with (at_builtin;refine wpList_app_row 48 85 5 40 _ Try.underlying48 part_info rfl (by omega) (by omega) (R:=Rj) (B:=w1.heap.size) rfl _ _ rfl HO4.out rfl ⟨wr.heap.size,0,none⟩ 1 1 (partC loneR) rfl rfl ?g6 ?g7 ?g8 ?g9 ?g0 ?_)
       case g6=>exact fun j u h=>new_cells wr (partC loneR) _ j u h
       case g7=>
        intro u hu
        simp only[partC,loneR,List.mem_cons,List.not_mem_nil,or_false] at hu
        rcases hu with rfl|rfl|rfl|rfl|rfl <;> rfl
       case g8=>omega
       case g9=>first|omega|(simp;omega)
       case g0=>exact fun q hq=>HE4.out.inv.none_of_ge (by simp at hq ⊢;omega)
       intro v' w5 ho5 hg5 _
       have HE5:=Lib.hid (HE4.out.appV HO4.out (Nat.le_refl _) hg5)
       have HO5:=Lib.hid ho5
       clear ho5 hg5
       go_wp2_with fail
       go_roundg (lone-(i+1))
       case measure=>omega
       case rel=>
        have ho6:=HO5.out
        rw[←HLn.out (C+i) (by omega)] at ho6
        obtain⟨a6,c6,rfl,_⟩:=ho6.open
        exact⟨i+1,by omega,by omega,by go_num,HE5.out,a6,c6,rfl,ho6⟩
      ·obtain rfl:i=lone:=by omega
       go_wp2_with fail
       go_ret
       refine⟨_,Rj,rfl,HE1.out.trans HEx.out,?_⟩
       rw[HFp.out,HC.out]
       exact⟨a3,c3,rfl,HOx.out.mono HE1.out.size⟩
end
section
open Go.RowKit
set_option linter.unusedVariables false
theorem genOf_le {s:List Nat} (hs:IsPerm s) (he:s.length % 2=0) (hn:s.length≤131073) {k:Nat} (hk:k<partsN s):0≤genOf s (partsL s) k∧genOf s (partsL s) k≤65538:=by
 obtain⟨h1,h2⟩:=genOf_euler hs he hk
 have:=ecnt_le (partsL s) (k:Int) s.length
 omega
theorem partsF_g {s:List Nat} (hs:IsPerm s) (he:s.length % 2=0) (hn:s.length≤131073) (k:Nat):0≤(partsF s k).g∧(partsF s k).g≤65538:=by
 unfold partsF
 by_cases h:k<partsN s
 ·rw[if_pos h];exact genOf_le hs he hn h
 ·rw[if_neg h];exact⟨by decide,by decide⟩
end
section
open Go.RowKit
set_option linter.unusedVariables false
theorem OwnI.madeAt {R:Reg} {w1:World} {g n B:Nat} (hg:R g=none) (ho:w1.ownsRow B 3 1 (.slice (some ⟨g,0,none⟩) n n) n (madeCells #[.int .i64 0] n).toList):
  OwnI R B 3 w1 (.slice (some ⟨g,0,none⟩) n n) (List.replicate n 0):=by
 refine⟨?_,fun k hk=>?_⟩
 ·rw[toList_madeCells_one] at ho
  simpa using ho
 ·simp only[Value.ownBlock,Option.some.injEq] at hk
  rw[←hk];exact hg
theorem OwnI.drewN {R:Reg} {B:Nat} {E:TypeId} {w:World} {v:Value} {xs:List Int} (h:OwnI R B E w v xs) (q:Nat):OwnI R B E (w.drewN q) v xs:=h
def rangeTo (n k:Nat):List Nat:=List.range k ++ List.replicate (n-k) 0
theorem rangeTo_length {n k:Nat} (h:k≤n):(rangeTo n k).length=n:=by simp[rangeTo];omega
theorem rangeTo_set {n k:Nat} (h:k<n):(rangeTo n k).set k k=rangeTo n (k+1):=by
 unfold rangeTo
 rw[List.set_append_right _ _ (by simp),List.length_range,Nat.sub_self,show n-k=(n-(k+1))+1 by omega,List.replicate_succ,List.set_cons_zero,List.range_succ,List.append_assoc]
 rfl
def RInv (s:List Nat) (L0 L:List Nat) (ch:Bool) (d:Nat) (P:Prop):Prop:=
 LInv s L∧(ch=true→sumL L+1≤sumL L0)∧(ch=false→L=L0∧(∀ e,e<d→at' L (at' s e)=at' L e∧at' L (e ^^^ 1)=at' L e)∧P)
set_option maxRecDepth 100000 in
set_option maxHeartbeats 4000000 in
theorem r8names_any (R:Reg) (w:World) (hI:Inv R w) (v:Value) (s:List Nat) (root lone:Int) (hv:FreeI R w v (toI s)) (hS:IsPerm s) (hn:s.length≤131073) (he:s.length % 2=0):
  Calls Try.prog 42 #[refV v root lone] w (RetOwn R w (partsL s)):=by
 obtain⟨a0,cap0,rfl,hv⟩:=hv.open
 rw[toI_length] at hv ⊢
 obtain⟨n,hl⟩:∃ n,s.length=n:=⟨_,rfl⟩
 have HLast:=Lib.hid (fun (L:List Nat) (h:LInv s L) (hc:LClosed s L) d (hd:d<s.length)=>h.last hS he hc hd)
 have HCnt:=Lib.hid (fun k (hk:k≤s.length)=>(partsL_ord hS he).cnt_le hk)
 have HPL:=Lib.hid (partsL_length hS he)
 have HBd:=Lib.hid (fun d (hd:d<s.length)=>partsL_lt hS he hd)
 have HPN:=Lib.hid (partsN_le hS he)
 have HXL:=Lib.hid (fun x (hx:x<n)=>xor_one_lt (n:=n) (by omega) hx)
 have HSL:=Lib.hid (fun x (hx:x<n)=>(by have:=hS.lt (i:=x) (by omega);omega:at' s x<n))
 have HCs:=Lib.hid (fun x (hx:x<s.length)=>Con.step hS hx)
 have HCm:=Lib.hid (fun x (hx:x<s.length)=>Con.mate hS he hx)
 have HSt:=Lib.hid (LInv.start hS)
 have HL:=Lib.hid hl
 rw[hl] at hn he hv ⊢
 have HI:=Lib.hid hI
 have HV:=Lib.hid hv
 have HS:=Lib.hid hS
 have HMT:=Lib.hid rmate_any
 obtain⟨i0,hi,hz0,hz1,hz2⟩:=info_parts int_info
 clear hI hl hv hS
 unfold refV
 go_enter Try.func42,Try.ntmps42
 go_wp2_with (refine wpList_make_full _ rfl _ _ 25 rfl w.heap.size 3 i0 (.int .i64 0) 1 Try.underlying25 hi hz0 hz1 .i64 .i64 (n:Int) (n:Int) n rfl rfl rfl rfl ?q1 ?q2 (by simp) ?_)
 case q1=>rw[hz2];omega
 case q2=>unfold maxLen;omega
 intro w1 ho1 hg1
 have he0:Ev R w R (w.alloc (.cells #[.slice a0 n cap0,.int .i64 root,.int .i64 lone] 27)):=(Ev.refl HI.out).alloc _
 have hgn:R (w.heap.size+1)=none:=HI.out.none_of_ge (by omega)
 have hown:OwnI R (w.heap.size+1) 3 w1 (.slice (some ⟨w.heap.size+1,0,none⟩) n n) (toI (rangeTo n 0)):=by
  have:=OwnI.madeAt (R:=R) (g:=w.heap.size+1) hgn (by simpa using ho1)
  rw[show toI (rangeTo n 0)=List.replicate n 0 by simp[toI,rangeTo]]
  refine⟨⟨this.1.1,?_⟩,this.2⟩
  rcases this.1.2 with h|⟨g,cap,cur,hv,hg,r⟩
  ·exact Or.inl h
  ·refine Or.inr ⟨g,cap,cur,hv,?_,r⟩
   injection hv with e
   injection e with e
   injection e with e
   omega
 obtain⟨w0,hw0⟩:∃ w0,w0=w.alloc (.cells #[.slice a0 n cap0,.int .i64 root,.int .i64 lone] 27):=⟨_,rfl⟩
 rw[←hw0] at he0 hg1
 have hsz0:w0.heap.size=w.heap.size+1:=by rw[hw0];simp
 have he1:Ev R w0 R w1:=(Ev.refl he0.inv).grown hg1 (by simp)
 have HO1:=Lib.hid hown
 have HE0:=Lib.hid he0
 have HE1:=Lib.hid he1
 have hcell:∀ w',Ev R w0 R w'→w'.cell? ⟨w.heap.size,0,none⟩=some (.slice a0 n cap0):=fun w' h=>by
  rw[h.cell (by omega) (HI.out.none_of_ge (Nat.le_refl _)),hw0]
  simp
 have HCL:=Lib.hid hcell
 clear ho1 hg1 hown he1 he0 hcell hw0
 go_wp2_with fail
 obtain⟨b,hb⟩:∃ b,w.heap.size+1=b:=⟨_,rfl⟩
 rw[hb] at HO1 hgn hsz0 ⊢
 have hbw:w.heap.size<b:=by omega
 have hRb:=hgn
 have HSZ:=Lib.hid hsz0
 clear hb hgn hsz0
 go_loopg [19] n (fun g v19 wr=>∃ k:Nat,k≤n∧n-k≤g∧v19=.int .i64 (k:Int)∧Ev R w0 R wr∧OwnI R b 3 wr (.slice (some ⟨b,0,none⟩) n n) (toI (rangeTo n k)))
 case atStart=>exact⟨0,Nat.zero_le _,by omega,rfl,HE1.out,HO1.out⟩
 case round=>
  obtain⟨k,hk,hg,rfl,he1,ho⟩:=hrel
  have HLE:=Lib.hid (show (toI (rangeTo n k)).length=n by rw[toI_length,rangeTo_length hk])
  have HE:=Lib.hid he1
  have HO:=Lib.hid ho
  clear he1 ho
  by_cases hkn:k<n
  ·obtain⟨gb,e1,_,_,hc,hz⟩:=HO.out.headAt HLE.out (i:=k) hkn
   cases e1
   have hst:=HO.out.put HLE.out k hkn (k:Int)
   rw[←toI_set,rangeTo_set hkn] at hst
   have HST:=Lib.hid hst
   clear hst
   go_wp2_with fail
   go_roundg (n-(k+1))
   case measure=>omega
   case rel=>exact⟨k+1,by omega,by omega,by go_num,HE.out.setCell (Nat.le_of_eq HSZ.out) hRb _,HST.out⟩
  ·obtain rfl:k=n:=by omega
   have hL0:rangeTo k k=List.range k:=by simp[rangeTo]
   rw[hL0] at HO HLE
   obtain⟨wj,hwj⟩:∃ wj:World,wj=wr:=⟨_,rfl⟩
   subst hwj
   obtain⟨n,hnj⟩:∃ n,n=k:=⟨_,rfl⟩
   subst hnj
   have HLS:Hid (LInv s (List.range n)):=Lib.hid (by rw[←HL.out];exact HSt.out)
   clear hL0 hkn hg hk
   go_wp2_with fail
   go_loopg [5] (sumL (List.range n)+1) (fun g v5 wr=>∃ (L:List Nat) (ch:Bool),v5=.bool ch∧Ev R w0 R wr∧OwnI R b 3 wr (.slice (some ⟨b,0,none⟩) n n) (toI L)∧LInv s L∧(ch=true→sumL L+1≤g)∧(ch=false→LClosed s L))
   case atStart=>exact⟨_,true,rfl,HE.out,HO.out,HLS.out,fun _=>Nat.le_refl _,fun h=>by cases h⟩
   case round=>
    obtain⟨L0,ch,rfl,he1,ho,hli,hch1,hch2⟩:=hrel
    cases ch with
    | true=>
     have hg1:=hch1 rfl
     have HLI:=Lib.hid hli
     have HEa:=Lib.hid he1
     have HOa:=Lib.hid ho
     clear he1 ho hli hch1 hch2
     obtain⟨g1,rfl⟩:∃ g1,gk=g1+1:=⟨gk-1,by omega⟩
     go_wp2_with fail
     go_loopg [5,30] n (fun g v5 v30 wr=>∃ (L:List Nat) (ch:Bool) (d:Nat),d≤n∧n-d≤g∧v5=.bool ch∧v30=.int .i64 (d:Int)∧Ev R w0 R wr∧OwnI R b 3 wr (.slice (some ⟨b,0,none⟩) n n) (toI L)∧RInv s L0 L ch d True)
     case atStart=>exact⟨L0,false,0,Nat.zero_le _,by omega,rfl,rfl,HEa.out,HOa.out,HLI.out,fun h=>(by cases h),fun _=>⟨rfl,fun e he=>absurd he (Nat.not_lt_zero _),trivial⟩⟩
     case round=>
      obtain⟨L,ch,d,hd,hg2,rfl,rfl,he1,ho,hri⟩:=hrel
      have HEb:=Lib.hid he1
      have HOb:=Lib.hid ho
      have HRI:=Lib.hid hri
      clear he1 ho hri
      by_cases hdn:d<n
      ·go_wp2_with fail
       have c0:=HCL.out wr HEb.out
       obtain⟨bs,os,e1,hcs⟩:=(HV.out.ev (HE0.out.trans HEb.out)).at (i:=d) (by rw[HL.out];exact hdn)
       subst e1
       have HMd:=Lib.hid (HMT.out wr.drew d (by omega))
       have hy1:=HSL.out d hdn
       have hy2:=HXL.out d hdn
       have HC1:=Lib.hid (HCs.out d (by rw[HL.out];exact hdn))
       have HC2:=Lib.hid (HCm.out d (by rw[HL.out];exact hdn))
       obtain⟨y1,hy1e⟩:∃ y,at' s d=y:=⟨_,rfl⟩
       obtain⟨y2,hy2e⟩:∃ y,d ^^^ 1=y:=⟨_,rfl⟩
       rw[hy1e] at hy1 hcs HC1
       rw[hy2e] at hy2 HMd HC2
       have HY1:=Lib.hid hy1e
       have HY2:=Lib.hid hy2e
       have hltb:b<wr.heap.size:=by have:=HOb.out.lt b rfl;exact this.2
       clear hy1e hy2e
       go_cut [40,41,42] (fun s40 s41 s42 wx=>∃ g:Nat,b<g∧s40=.slice (some ⟨g,0,none⟩) 2 2∧s41=.int .i64 2∧s42=.int .i64 0∧Ev R w0 R wx∧OwnI R b 3 wx (.slice (some ⟨b,0,none⟩) n n) (toI L)∧R g=none∧wx.cell? ⟨g,0,none⟩=some (.int .i64 (y1:Int))∧wx.cell? ⟨g,1,none⟩=some (.int .i64 (y2:Int)))
       case first=>
        go_region_with (go_at_call 35;refine HMd.out.mono ?_;rintro e w' ⟨rfl,rfl⟩)
        all_goals (go_wp2_with fail;go_meet)
        all_goals exact⟨wr.heap.size,hltb,rfl,rfl,rfl,(HEb.out.alloc _).drew,(HOb.out.alloc _).drew,HEb.out.inv.none_of_ge (Nat.le_refl _),by simp,by simp⟩
       case rest=>
        obtain⟨gq,hgq,rfl,rfl,rfl,he,ho,hgn,hc1,hc2⟩:=hcut
        have HEc:=Lib.hid he
        have HOc:=Lib.hid ho
        obtain⟨ys,hys⟩:∃ ys:Nat→Nat,(ys 0=y1∧ys 1=y2):=⟨fun i=>if i=0 then y1 else y2,by simp,by simp⟩
        have hcg:∀ i,i<2→wc.cell? ⟨gq,i,none⟩=some (.int .i64 ((ys i:Nat):Int)):=fun i hi=>by
         rcases (show i=0∨i=1 by omega) with rfl|rfl
         ·rw[hys.1];exact hc1
         ·rw[hys.2];exact hc2
        have hyl:∀ i,i<2→ys i<n∧Con s (ys i) d:=fun i hi=>by
         have hp:=Con.per HS.out
         rcases (show i=0∨i=1 by omega) with rfl|rfl
         ·rw[hys.1];exact⟨hy1,hp.symm HC1.out⟩
         ·rw[hys.2];exact⟨hy2,hp.symm HC2.out⟩
        have HYS:=Lib.hid hys
        have HCG:=Lib.hid hcg
        have HYL:=Lib.hid hyl
        clear he ho hys hcg hyl hc1 hc2 c0 hcs
        go_wp2_with fail
        go_loopg [5,42] 2 (fun g v5 v42 wr=>∃ (L':List Nat) (ch':Bool) (i:Nat),i≤2∧2-i≤g∧v5=.bool ch'∧v42=.int .i64 (i:Int)∧Ev R w0 R wr∧OwnI R b 3 wr (.slice (some ⟨b,0,none⟩) n n) (toI L')∧(∀ i,i<2→wr.cell? ⟨gq,i,none⟩=some (.int .i64 ((ys i:Nat):Int)))∧RInv s L0 L' ch' d (∀ k,k<i→at' L' (ys k)=at' L' d))
        case atStart=>
         obtain⟨r1,r2,r3⟩:=HRI.out
         exact⟨L,ch,0,by omega,by omega,rfl,rfl,HEc.out,HOc.out,HCG.out,r1,r2,fun h=>⟨(r3 h).1,(r3 h).2.1,fun k hk=>absurd hk (Nat.not_lt_zero _)⟩⟩
        case round=>
         obtain⟨L',ch',i,hi,hg3,rfl,rfl,he,ho,hcg,hri⟩:=hrel
         have HEd:=Lib.hid he
         have HOd:=Lib.hid ho
         have HRd:=Lib.hid hri
         have HCd:=Lib.hid hcg
         clear he ho hri hcg
         by_cases hi2:i<2
         ·have hcx:=HCd.out i hi2
          obtain⟨hyl,hycon⟩:=HYL.out i hi2
          obtain⟨x,hx⟩:∃ x,ys i=x:=⟨_,rfl⟩
          rw[hx] at hcx hyl hycon
          have HX:=Lib.hid hx
          have HLn:Hid ((toI L').length=n):=Lib.hid (by rw[toI_length,HRd.out.1.len,HL.out])
          obtain⟨_,e1,_,_,hcA,hzA⟩:=HOd.out.headAt HLn.out (i:=x) hyl
          cases e1
          obtain⟨_,e1,_,_,hcB,hzB⟩:=HOd.out.headAt HLn.out (i:=d) hdn
          cases e1
          rw[toI_nth] at hcA hcB
          obtain⟨lx,hlx⟩:∃ l,at' L' x=l:=⟨_,rfl⟩
          obtain⟨ld,hld⟩:∃ l,at' L' d=l:=⟨_,rfl⟩
          rw[hlx] at hcA
          rw[hld] at hcB
          have HLX:=Lib.hid hlx
          have HLD:=Lib.hid hld
          have HYC:=Lib.hid hycon
          clear hx hlx hld hycon
          rcases Nat.lt_trichotomy lx ld with hcmp|hcmp|hcmp
          ·have hxd:x≠d:=fun e=>by subst e;have:=HLX.out;have:=HLD.out;omega
           have hdx:d≠x:=fun e=>hxd e.symm
           have hnb:b≠gq:=by omega
           have HSK:=Lib.hid (LInv.sink HS.out HRd.out.1 (d:=d) (x:=x) (by rw[HL.out];exact hdn) (by rw[HL.out];exact hyl) HYC.out (by rw[HLX.out,HLD.out];exact hcmp))
           rw[HLX.out] at HSK
           go_wp2_with fail
           go_quiet (fail)
           go_wp2_with fail
           go_quiet (fail)
           go_wp2_with fail
           go_roundg (2-(i+1))
           case measure=>omega
           case rel=>
            have hse:=fun q q'=>((HEd.out.drewN q).setCell (p:=⟨b,d,none⟩) (Nat.le_of_eq HSZ.out) hRb (.int .i64 (lx:Int))).drewN q'
            have hst:=fun q q'=>((HOd.out.drewN q).put HLn.out d hdn (lx:Int)).drewN q'
            rw[←toI_set] at hst
            refine⟨L'.set d lx,true,i+1,by omega,by omega,rfl,by go_num,hse _ _,hst _ _,fun j hj=>?_,HSK.out.1,fun _=>?_,fun h=>by cases h⟩
            ·have:=HCd.out j hj
             simpa [World.cell?_setCell_other,hnb] using this
            ·have h1:=HSK.out.2
             cases ch' with
             | true=>have:=HRd.out.2.1 rfl;omega
             | false=>rw[(HRd.out.2.2 rfl).1] at h1 ⊢;exact h1
          ·subst hcmp
           go_wp2_with fail
           go_quiet (fail)
           go_wp2_with fail
           go_quiet (fail)
           go_wp2_with fail
           go_roundg (2-(i+1))
           case measure=>omega
           case rel=>
            obtain⟨r1,r2,r3⟩:=HRd.out
            refine⟨L',ch',i+1,by omega,by omega,rfl,by go_num,HEd.out.drewN _,HOd.out.drewN _,HCd.out,r1,r2,fun h=>⟨(r3 h).1,(r3 h).2.1,fun k hk=>?_⟩⟩
            by_cases e:k=i
            ·subst e;rw[HX.out,HLX.out,HLD.out]
            ·exact (r3 h).2.2 k (by omega)
          ·have hxd:x≠d:=fun e=>by subst e;have:=HLX.out;have:=HLD.out;omega
           have hdx:d≠x:=fun e=>hxd e.symm
           have hnb:b≠gq:=by omega
           have HSK:=Lib.hid (LInv.sink HS.out HRd.out.1 (d:=x) (x:=d) (by rw[HL.out];exact hyl) (by rw[HL.out];exact hdn) ((Con.per HS.out).symm HYC.out) (by rw[HLX.out,HLD.out];exact hcmp))
           rw[HLD.out] at HSK
           go_wp2_with fail
           go_quiet (fail)
           go_wp2_with fail
           go_quiet (fail)
           go_wp2_with fail
           go_roundg (2-(i+1))
           case measure=>omega
           case rel=>
            have hse:=fun q=>((HEd.out.drewN q).setCell (p:=⟨b,x,none⟩) (Nat.le_of_eq HSZ.out) hRb (.int .i64 (ld:Int)))
            have hst:=fun q=>((HOd.out.drewN q).put HLn.out x hyl (ld:Int))
            rw[←toI_set] at hst
            refine⟨L'.set x ld,true,i+1,by omega,by omega,rfl,by go_num,hse _,hst _,fun j hj=>?_,HSK.out.1,fun _=>?_,fun h=>by cases h⟩
            ·have:=HCd.out j hj
             simpa [World.cell?_setCell_other,hnb] using this
            ·have h1:=HSK.out.2
             cases ch' with
             | true=>have:=HRd.out.2.1 rfl;omega
             | false=>rw[(HRd.out.2.2 rfl).1] at h1 ⊢;exact h1
         ·obtain rfl:i=2:=by omega
          go_wp2_with fail
          go_roundg (n-(d+1))
          case measure=>omega
          case rel=>
           obtain⟨r1,r2,r3⟩:=HRd.out
           refine⟨L',ch',d+1,by omega,by omega,rfl,by go_num,HEd.out,HOd.out,r1,r2,fun h=>⟨(r3 h).1,fun e he=>?_,trivial⟩⟩
           by_cases e':e=d
           ·subst e'
            have h0:=(r3 h).2.2 0 (by omega)
            have h1:=(r3 h).2.2 1 (by omega)
            rw[HYS.out.1] at h0
            rw[HYS.out.2] at h1
            rw[HY1.out,HY2.out]
            exact⟨h0,h1⟩
           ·exact (r3 h).2.1 e (by omega)
      ·obtain rfl:d=n:=by omega
       go_wp2_with fail
       go_roundg g1
       case measure=>omega
       case rel=>
        obtain⟨r1,r2,r3⟩:=HRI.out
        refine⟨L,ch,rfl,HEb.out,HOb.out,r1,fun h=>by have:=r2 h;omega,fun h e he=>?_⟩
        rw[HL.out] at he
        exact (r3 h).2.1 e he
    | false=>
     have HLI:=Lib.hid hli
     have HCl:=Lib.hid (hch2 rfl)
     have HEa:=Lib.hid he1
     have HOa:=Lib.hid ho
     clear he1 ho hli hch1 hch2
     have HLn:Hid ((toI L0).length=n):=Lib.hid (by rw[toI_length,HLI.out.len,HL.out])
     go_wp2_with (refine wpList_make_full _ rfl _ _ 25 rfl wr.heap.size 3 i0 (.int .i64 0) 1 Try.underlying25 hi hz0 hz1 .i64 .i64 (n:Int) (n:Int) n rfl rfl rfl rfl ?q5 ?q6 (Nat.le_refl _) ?_)
     case q5=>rw[hz2];omega
     case q6=>unfold maxLen;omega
     intro w2 ho2 hg2
     have hown:=OwnI.madeAt (R:=R) (HEa.out.inv.none_of_ge (Nat.le_refl _)) ho2
     have HE2:=Lib.hid (HEa.out.grown hg2 (by simp))
     have HOn:=Lib.hid (HOa.out.kept hg2 (Or.inr (by simp[Value.ownBlock])))
     have hltb:b<wr.heap.size:=(HOa.out.lt b rfl).2
     have hRc:R wr.heap.size=none:=HEa.out.inv.none_of_ge (Nat.le_refl _)
     obtain⟨c,hcw⟩:∃ c,wr.heap.size=c:=⟨_,rfl⟩
     rw[hcw] at hown hltb hRc ⊢
     have HOw:=Lib.hid hown
     clear hown ho2 hg2 hcw
     go_wp2_with fail
     go_loopg [10,85] n (fun g v10 v85 wr=>∃ (k:Nat) (O:List Int),k≤n∧n-k≤g∧v10=.int .i64 (((partsGo s k).2:Nat):Int)∧v85=.int .i64 (k:Int)∧Ev R w0 R wr∧OwnI R b 3 wr (.slice (some ⟨b,0,none⟩) n n) (toI L0)∧OwnI R c 3 wr (.slice (some ⟨c,0,none⟩) n n) O∧O.length=n∧∀ j,j<k→nth O j=nth (partsL s) j)
     case atStart=>exact⟨0,_,by omega,by omega,rfl,rfl,HE2.out,HOn.out,HOw.out,by simp,fun j hj=>absurd hj (Nat.not_lt_zero _)⟩
     case round=>
      obtain⟨k,O,hk,hg,rfl,rfl,he,hol,hoo,hlo,hall⟩:=hrel
      have HEb:=Lib.hid he
      have HOl:=Lib.hid hol
      have HOo:=Lib.hid hoo
      have HLo:=Lib.hid hlo
      have HAl:=Lib.hid hall
      clear he hol hoo hlo hall
      have hcb:=HCnt.out k (by rw[HL.out];exact hk)
      have hcb:(partsGo s k).2≤k:=hcb
      obtain⟨q,hq⟩:∃ q,(partsGo s k).2=q:=⟨_,rfl⟩
      rw[hq] at hcb ⊢
      have HQ:=Lib.hid hq
      clear hq
      by_cases hkn:k<n
      ·obtain⟨_,e1,_,_,hcA,_⟩:=HOl.out.headAt HLn.out (i:=k) hkn
       cases e1
       rw[toI_nth] at hcA
       obtain⟨_,e1,_,_,hcB,hzB⟩:=HOo.out.headAt HLo.out (i:=k) hkn
       cases e1
       have hbc:b≠c:=by omega
       rcases HLast.out L0 HLI.out HCl.out k (by rw[HL.out];exact hkn) with ⟨e1,e2,e3⟩|⟨e1,e2,e3⟩
       ·rw[e1] at hcA
        have hst:=HOo.out.put HLo.out k hkn (q:Int)
        have HSE:=Lib.hid (HEb.out.setCell (p:=⟨c,k,none⟩) (show w0.heap.size≤c by have:=HSZ.out;omega) hRc (.int .i64 (q:Int)))
        have HSL':=Lib.hid (HOl.out.setCell (a:=⟨c,k,none⟩) (fun e=>hbc (by cases e;rfl)) (.int .i64 (q:Int)))
        have HST:=Lib.hid hst
        have H2:=Lib.hid e2
        have H3:=Lib.hid e3
        have heq:((k:Int) == (k:Int))=true:=by simp
        clear hst e1 e2 e3
        go_wp2_with fail
        go_roundg (n-(k+1))
        case measure=>omega
        case rel=>
         refine⟨k+1,O.set k (q:Int),by omega,by omega,by rw[H3.out,HQ.out];go_num,by go_num,HSE.out,HSL'.out,HST.out,by rw[List.length_set];exact HLo.out,fun j hj=>?_⟩
         rw[nth_set (by rw[HLo.out];exact hkn)]
         by_cases e:k=j
         ·subst e;rw[if_pos rfl,H2.out,HQ.out]
         ·rw[if_neg e];exact HAl.out j (by omega)
       ·obtain⟨l,hl⟩:∃ l,at' L0 k=l:=⟨_,rfl⟩
        rw[hl] at hcA e1 e2
        obtain⟨_,e4,_,_,hcC,_⟩:=HOo.out.headAt HLo.out (i:=l) (by omega)
        cases e4
        rw[HAl.out l e1] at hcC
        have hst:=HOo.out.put HLo.out k hkn (nth (partsL s) l)
        have HSE:=Lib.hid (HEb.out.setCell (p:=⟨c,k,none⟩) (show w0.heap.size≤c by have:=HSZ.out;omega) hRc (.int .i64 (nth (partsL s) l)))
        have HSL':=Lib.hid (HOl.out.setCell (a:=⟨c,k,none⟩) (fun e=>hbc (by cases e;rfl)) (.int .i64 (nth (partsL s) l)))
        have HST:=Lib.hid hst
        have H2:=Lib.hid e2
        have H3:=Lib.hid e3
        have heq:((l:Int) == (k:Int))=false:=by rw[beq_eq_false_iff_ne];omega
        clear hst e2 e3 hl
        go_wp2_with fail
        go_roundg (n-(k+1))
        case measure=>omega
        case rel=>
         refine⟨k+1,O.set k (nth (partsL s) l),by omega,by omega,by rw[H3.out,HQ.out],by go_num,HSE.out,HSL'.out,HST.out,by rw[List.length_set];exact HLo.out,fun j hj=>?_⟩
         rw[nth_set (by rw[HLo.out];exact hkn)]
         by_cases e:k=j
         ·subst e;rw[if_pos rfl,H2.out]
         ·rw[if_neg e];exact HAl.out j (by omega)
      ·obtain rfl:k=n:=by omega
       go_wp2_with fail
       go_ret
       refine⟨_,rfl,HE0.out.trans HEb.out,?_⟩
       have:O=partsL s:=ext_nth (by rw[HLo.out,HPL.out,HL.out]) fun j hj=>HAl.out j (by rw[←HLo.out];exact hj)
       rw[←this]
       exact HOo.out.mono (by omega)
end
end Go.Proofs.Ytklkgicjfnbndaa
