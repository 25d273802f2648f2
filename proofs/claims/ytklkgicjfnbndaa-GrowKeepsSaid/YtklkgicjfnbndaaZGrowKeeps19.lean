/- parquetryref08.of, Parts. -/
import Derived.Test.YtklkgicjfnbndaaZGrowKeeps17
import Derived.Test.YtklkgicjfnbndaaZGrowKeeps16
import Derived.Test.YtklkgicjfnbndaaZGrowKeeps18
import Derived.Test.YtklkgicjfnbndaaZGrowKeeps11
namespace Go.Proofs.Ytklkgicjfnbndaa
section
open Go.RowKit
set_option linter.unusedVariables false
def allGe (xs:List Nat) (d i:Nat):Bool:=(xs.take i).all fun x=>decide (d≤x)
theorem allGe_succ {xs:List Nat} {d i:Nat} (hi:i<xs.length):allGe xs d (i+1)=(allGe xs d i && decide (d≤at' xs i)):=by
 unfold allGe
 rw[List.take_succ_eq_append_getElem hi,List.all_append,at'_eq hi]
 simp
theorem allGe_all {t:List Nat} (ht:IsPerm t) {d:Nat} (hd:d<t.length):allGe (orbitL t d) d (orbitL t d).length=leadB t d:=by
 rw[Bool.eq_iff_iff,leadB_iff ht hd]
 unfold allGe
 rw[List.take_length,List.all_eq_true]
 constructor
 ·intro h y hy hc
  have hc':cyc t.length (at' t) d y:=ht.pm.per.symm hc
  obtain⟨_,_,j,e⟩:=hc'
  have hm:y∈orbitL t d:=(ht.mem_orbit hd).2 ⟨j,by rw[←itf_at];exact e⟩
  have:=h y hm
  simp at this
  omega
 ·intro h x hx
  have hxl:=orbitL_lt ht hd x hx
  obtain⟨j,e⟩:=(ht.mem_orbit hd).1 hx
  simp only[decide_eq_true_eq]
  rcases Nat.lt_or_ge x d with hlt|hge
  ·exact absurd (ht.pm.per.symm ⟨hd,hxl,j,by rw[itf_at];exact e⟩) (h x hlt)
  ·exact hge
set_option maxRecDepth 100000 in
set_option maxHeartbeats 2000000 in
theorem rof_any (R:Reg) (w:World) (hI:Inv R w) (v u:Value) (t:List Nat) (N:List Int) (hv:FreeI R w v (toI t)) (hu:FreeI R w u N) (ht:IsPerm t) (hn:t.length≤131073) (hN:N.length=t.length) (k:Int):
  Calls Try.prog 43 #[v,u,.int .i64 k] w (RetE R w (.int .i64 ((vcnt t N k t.length:Nat):Int))):=by
 obtain⟨a0,cap0,rfl,hv⟩:=hv.open
 obtain⟨a1,cap1,rfl,hu⟩:=hu.open
 rw[toI_length] at hv ⊢
 rw[hN] at hu ⊢
 obtain⟨n,hl⟩:∃ n,t.length=n:=⟨_,rfl⟩
 have HOrb:=Lib.hid (fun w' (he:Ev R w R w') d (hd:d<t.length)=>rorbit_any R w' he.inv _ t (hv.ev he) ht (by omega) d hd)
 have HLd:=Lib.hid (fun d (hd:d<t.length)=>allGe_all ht hd)
 have HOl:=Lib.hid (fun d=>orbitL_length t d)
 have HL:=Lib.hid hl
 have HNl:=Lib.hid hN
 rw[hl] at hn hu HOrb ⊢
 have HU:=Lib.hid hu
 have HI:=Lib.hid hI
 clear hI hl hv hu ht hN
 go_enter Try.func43,Try.ntmps43
 go_wp2_with fail
 go_loopg [7,14] n (fun g v7 v14 wr=>∃ d:Nat,d≤n∧n-d≤g∧v7=.int .i64 ((vcnt t N k d:Nat):Int)∧v14=.int .i64 (d:Int)∧Ev R w R wr)
 case atStart=>exact⟨0,by omega,by omega,rfl,rfl,Ev.refl HI.out⟩
 case round=>
  obtain⟨d,hd,hg,rfl,rfl,he⟩:=hrel
  have HE:=Lib.hid he
  clear he
  have hvb:=vcnt_le t N k d
  obtain⟨c,hc⟩:∃ c,vcnt t N k d=c:=⟨_,rfl⟩
  rw[hc] at hvb ⊢
  have HC:=Lib.hid hc
  clear hc
  by_cases hdn:d<n
  ·have HO:=Lib.hid (HOrb.out wr HE.out d hdn)
   go_wp2_with fail
   refine HO.out.mono ?_
   rintro e w1 ⟨vo,rfl,he1,ho1⟩
   obtain⟨ao,co,rfl,hof⟩:=ho1.free.open
   have hol:=HOl.out d
   obtain⟨L,hL⟩:∃ L,orbitL t d=L:=⟨_,rfl⟩
   rw[hL] at hof hol ⊢
   rw[toI_length] at hof ⊢
   obtain⟨m,hm⟩:∃ m,L.length=m:=⟨_,rfl⟩
   rw[hm] at hof hol ⊢
   rw[HL.out] at hol
   have HE1:=Lib.hid (HE.out.trans he1)
   have HF1:=Lib.hid hof
   have HLL:=Lib.hid hL
   have HMm:=Lib.hid hm
   clear he1 hof ho1 hL hm
   go_wp2_with fail
   go_loopg [9,21] m (fun g v9 v21 wr=>∃ (i:Nat) (b:Bool),i≤m∧m-i≤g∧v9=.bool b∧b=allGe L d i∧v21=.int .i64 (i:Int)∧wr=w1)
   case atStart=>exact⟨0,true,by omega,by omega,rfl,rfl,rfl,rfl⟩
   case round=>
    obtain⟨i,b,hi,hg2,rfl,hb,rfl,rfl⟩:=hrel
    have HB:=Lib.hid hb
    clear hb
    by_cases him:i<m
    ·obtain⟨bb,oo,e1,hcx⟩:=HF1.out.at (i:=i) (by rw[HMm.out];exact him)
     cases e1
     obtain⟨x,hx⟩:∃ x,at' L i=x:=⟨_,rfl⟩
     rw[hx] at hcx
     have HX:=Lib.hid hx
     clear hx
     cases b with
     | false=>
      go_wp2_with fail
      go_roundg (m-(i+1))
      case measure=>omega
      case rel=>exact⟨i+1,false,by omega,by omega,rfl,by rw[allGe_succ (by rw[HMm.out];exact him),←HB.out];rfl,by go_num,rfl⟩
     | true=>
      by_cases hxd:d≤x
      ·go_wp2_with fail
       go_roundg (m-(i+1))
       case measure=>omega
       case rel=>exact⟨i+1,true,by omega,by omega,by simp,by rw[allGe_succ (by rw[HMm.out];exact him),←HB.out,HX.out];simp[hxd],by go_num,rfl⟩
      ·go_wp2_with fail
       go_roundg (m-(i+1))
       case measure=>omega
       case rel=>exact⟨i+1,false,by omega,by omega,by simp,by rw[allGe_succ (by rw[HMm.out];exact him),←HB.out,HX.out];simp[hxd],by go_num,rfl⟩
    ·obtain rfl:i=m:=by omega
     have hb2:b=leadB t d:=by
      rw[HB.out,←HLd.out d (by rw[HL.out];exact hdn),HLL.out,HMm.out]
     have HB2:=Lib.hid hb2
     obtain⟨bb,oo,e1,hcx⟩:=(HU.out.ev HE1.out).1.cell (i:=d) (by rw[HNl.out,HL.out];exact hdn)
     cases e1
     obtain⟨x,hx⟩:∃ x,nth N d=x:=⟨_,rfl⟩
     rw[hx] at hcx
     have HX:=Lib.hid hx
     clear hb2 hx him hi hg2
     cases b with
     | false=>
      go_wp2_with fail
      go_roundg (n-(d+1))
      case measure=>omega
      case rel=>exact⟨d+1,by omega,by omega,by rw[vcnt_succ,if_neg (fun h=>by rw[←HB2.out] at h;cases h.2),HC.out];rfl,by go_num,HE1.out⟩
     | true=>
      by_cases hxk:x=k
      ·subst hxk
       have heq:(x == x)=true:=by simp
       go_wp2_with fail
       go_roundg (n-(d+1))
       case measure=>omega
       case rel=>exact⟨d+1,by omega,by omega,by rw[vcnt_succ,if_pos ⟨HX.out,HB2.out.symm⟩,HC.out];go_num,by go_num,HE1.out⟩
      ·have heq:(x == k)=false:=by rw[beq_eq_false_iff_ne];exact hxk
       go_wp2_with fail
       go_roundg (n-(d+1))
       case measure=>omega
       case rel=>exact⟨d+1,by omega,by omega,by rw[vcnt_succ,if_neg (fun h=>hxk (by rw[←h.1,HX.out])),HC.out];rfl,by go_num,HE1.out⟩
  ·obtain rfl:d=n:=by omega
   go_wp2_with fail
   go_ret
   exact⟨ret_int (by rw[←HC.out]),HE.out⟩
def OwnRs (R:Reg) (B:Nat) (w:World) (v:Value) (C:Nat) (f:Nat→PartR):Prop:=
 ∃ a cap,v=.slice a C cap∧OwnV R B 83 5 w (.slice a C cap) C (flatF f C)
def RetRefs (R:Reg) (w:World) (C:Nat) (f:Nat→PartR) (e:Ending) (w':World):Prop:=∃ v,e=.returned v∧Ev R w R w'∧OwnRs R w.heap.size w' v C f
theorem rpart_info:(Try.prog.info? 83).map (fun i=>(i.zero,i.size,i.bytes))=some (some (.agg #[.int .i64 0,.int .i64 0,.int .i64 0,.int .i64 0,.int .i64 0]),5,40):=by kernel_rfl
theorem edges_half {s:List Nat} (hs:IsPerm s) (he:s.length % 2=0) (k:Int):dcnt (partsL s) k s.length=2*ecnt (partsL s) k s.length:=by
 have h:=edges_tally (s:=s) (N:=partsL s) k (fun x hx=>partsL_mate hs he hx) (e:=s.length / 2) (by omega)
 rw[show 2*(s.length / 2)=s.length by omega] at h
 omega
set_option maxRecDepth 100000 in
set_option maxHeartbeats 4000000 in
theorem r8parts_any (R:Reg) (w:World) (hI:Inv R w) (v:Value) (s:List Nat) (root:Int) (lone:Nat) (hv:FreeI R w v (toI s)) (hS:IsPerm s) (hn:s.length≤131073) (he:s.length % 2=0) (hlone:lone≤65536):
  Calls Try.prog 14 #[refV v root lone] w (RetRefs R w (partsN s+lone) (partsF s)):=by
 obtain⟨a0,cap0,rfl,hv⟩:=hv.open
 rw[toI_length] at hv ⊢
 obtain⟨n,hl⟩:∃ n,s.length=n:=⟨_,rfl⟩
 have HNm:=Lib.hid (fun w' (he':Ev R w R w')=>r8names_any R w' he'.inv _ s root lone (hv.ev he') hS hn he)
 have HPh:=Lib.hid (fun w' (he':Ev R w R w')=>rphi_any R w' he'.inv _ s root lone (hv.ev he') (by omega) he)
 have HO1:=Lib.hid (fun w' (he':Ev R w R w') u (hu:FreeI R w' u (partsL s)) k=>rof_any R w' he'.inv _ u s (partsL s) (hv.ev he') hu hS hn (partsL_length hS he) k)
 have HO2:=Lib.hid (fun w' (he':Ev R w R w') v u (hv:FreeI R w' v (toI (phiL s))) (hu:FreeI R w' u (partsL s)) k=>rof_any R w' he'.inv v u (phiL s) (partsL s) hv hu (phiL_perm hS he) (by rw[phiL_length];exact hn) (by rw[phiL_length];exact partsL_length hS he) k)
 have HOrd:=Lib.hid (partsL_ord hS he)
 have HGen:=Lib.hid (fun k (hk:k<partsN s)=>genOf_euler hS he hk)
 have HHalf:=Lib.hid (fun k=>edges_half hS he k)
 have HL:=Lib.hid hl
 rw[hl] at HNm HPh HO1 HOrd hn hv ⊢
 have HV:=Lib.hid hv
 have HI:=Lib.hid hI
 clear hI hl hv hS he
 have HPN:Hid ((partsGo s n).2=partsN s):=Lib.hid (by unfold partsN;rw[HL.out])
 obtain⟨cnt,hcnt⟩:∃ c:Nat→Nat,(fun k=>(partsGo s k).2)=c:=⟨_,rfl⟩
 rw[hcnt] at HOrd
 have HCN:Hid (cnt n=partsN s):=Lib.hid (by rw[←hcnt];exact HPN.out)
 clear HPN hcnt
 have he0:Ev R w R (w.alloc (.cells #[.slice a0 n cap0,.int .i64 root,.int .i64 lone] 27)):=(Ev.refl HI.out).alloc _
 obtain⟨w0,hw0⟩:∃ w0,w0=w.alloc (.cells #[.slice a0 n cap0,.int .i64 root,.int .i64 lone] 27):=⟨_,rfl⟩
 have hsz0:w0.heap.size=w.heap.size+1:=by rw[hw0];simp
 have hcells:∀ w',Ev R w0 R w'→w'.cell? ⟨w.heap.size,0,none⟩=some (.slice a0 n cap0)∧w'.cell? ⟨w.heap.size,1,none⟩=some (.int .i64 root)∧w'.cell? ⟨w.heap.size,2,none⟩=some (.int .i64 lone):=fun w' h=>by
  refine⟨?_,?_,?_⟩ <;> (rw[h.cell (by omega) (HI.out.none_of_ge (Nat.le_refl _)),hw0];simp)
 have HCL:=Lib.hid hcells
 clear hcells
 unfold refV at HNm HPh ⊢
 go_enter Try.func14,Try.ntmps14
 rw[←hw0] at he0
 have HE0:=Lib.hid he0
 obtain⟨x0,x1,x2⟩:=HCL.out w0 (Ev.refl he0.inv)
 go_wp2_with fail
 rw[←hw0]
 refine (HNm.out w0 HE0.out).mono ?_
 rintro e w1 ⟨vN,rfl,he1,ho1⟩
 obtain⟨aN,cN,rfl,hf1⟩:=ho1.free.open
 rw[HOrd.out.len] at hf1 ⊢
 have he1':=HE0.out.trans he1
 obtain⟨x0,x1,x2⟩:=HCL.out w1 he1
 have HE1:=Lib.hid he1'
 have HEa:=Lib.hid he1
 have HF1:=Lib.hid hf1
 clear he1 ho1 hf1 he1' he0 hw0
 go_wp2_with fail
 refine (HPh.out w1 HE1.out).mono ?_
 rintro e w2 ⟨vP,rfl,he2,ho2⟩
 obtain⟨aP,cP,rfl,hf2⟩:=ho2.free.open
 have hpl:(toI (phiL s)).length=n:=by rw[toI_length,phiL_length,HL.out]
 rw[hpl] at hf2 ⊢
 have HE2:=Lib.hid (HE1.out.trans he2)
 have HEb:=Lib.hid (HEa.out.trans he2)
 have HF2:=Lib.hid hf2
 have HF1:=Lib.hid (HF1.out.ev he2)
 clear he2 ho2 hf2 x0 x1 x2 hpl HEa HE1
 go_wp2_with fail
 go_loopg [3,18] n (fun g v3 v18 wr=>∃ d:Nat,d≤n∧n-d≤g∧v18=.int .i64 (d:Int)∧Ev R w2 R wr∧OwnRs R w2.heap.size wr v3 (cnt d) (partsF s))
 case atStart=>exact⟨0,Nat.zero_le _,by omega,rfl,Ev.refl HE2.out.inv,by rw[HOrd.out.zero];exact⟨none,0,rfl,OwnV.nil R _ _ _ _⟩⟩
 case round=>
  obtain⟨d,hd,hg,rfl,he,a3,c3,rfl,ho⟩:=hrel
  have HE:=Lib.hid he
  have HO:=Lib.hid ho
  clear he ho
  by_cases hdn:d<n
  ·have hcle:=HOrd.out.cnt_le (k:=d) (by omega)
   have hcle1:=HOrd.out.cnt_le (k:=d+1) (by omega)
   have hmono:=HOrd.out.mono (k:=d+1) (l:=n) (by omega) (Nat.le_refl _)
   rw[HCN.out] at hmono
   obtain⟨bN,oN,e1,hcN⟩:=(HF1.out.ev HE.out).1.cell (i:=d) (by rw[HOrd.out.len];exact hdn)
   subst e1
   have hor:=HOrd.out.ord d hdn
   have hfst:=fun e=>HOrd.out.first hdn e
   obtain⟨k,hk⟩:=Int.eq_ofNat_of_zero_le (HOrd.out.bound hdn).1
   rw[hk] at hcN hor hfst
   obtain⟨q,hq⟩:∃ q,cnt d=q:=⟨_,rfl⟩
   obtain⟨q1,hq1⟩:∃ q,cnt (d+1)=q:=⟨_,rfl⟩
   rw[hq,hq1] at hor
   rw[hq] at HO hcle hfst ⊢
   rw[hq1] at hmono hcle1
   have HK:=Lib.hid hk
   have HQ:=Lib.hid hq
   have HQ1:=Lib.hid hq1
   have HFst:=Lib.hid hfst
   clear hk hq hq1 hfst
   by_cases hnew:k=q
   ·subst hnew
    obtain rfl:q1=k+1:=by omega
    clear hor
    have heq:((k:Int) != (k:Int))=false:=by simp
    obtain⟨x0,x1,x2⟩:=HCL.out wr (HEb.out.trans HE.out)
    have hP1:=HO1.out wr (HE2.out.trans HE.out) _ (HF1.out.ev HE.out) (k:Int)
    obtain⟨V,hV⟩:∃ V,vcnt s (partsL s) (k:Int) n=V:=⟨_,rfl⟩
    obtain⟨B,hB⟩:∃ V,vcnt (phiL s) (partsL s) (k:Int) n=V:=⟨_,rfl⟩
    obtain⟨E,hE⟩:∃ V,ecnt (partsL s) (k:Int) n=V:=⟨_,rfl⟩
    obtain⟨g0,hg0⟩:∃ V,genOf s (partsL s) k=V:=⟨_,rfl⟩
    rw[hV] at hP1
    have hgn:=HGen.out k (by omega)
    have hhf:=HHalf.out (k:Int)
    have hVb:=vcnt_le s (partsL s) (k:Int) n
    have hEb:=ecnt_le (partsL s) (k:Int) n
    have hBb:=vcnt_le (phiL s) (partsL s) (k:Int) n
    have hg1:genOf s (partsL s) k=(2-(vcnt s (partsL s) (k:Int) s.length:Nat)+(ecnt (partsL s) (k:Int) s.length:Nat)-(vcnt (phiL s) (partsL s) (k:Int) s.length:Nat)) / 2:=rfl
    have hpf:partsF s k=⟨(d:Int),(V:Int),(E:Int),(B:Int),g0⟩:=by
     unfold partsF
     rw[if_pos (by omega)]
     unfold partF partAt
     rw[rootOf_eq (j:=d) (by rw[HOrd.out.len];exact hdn) HK.out (HFst.out rfl),HL.out,hV,hE,hB,hg0]
    rw[HL.out] at hgn hhf hg1
    rw[hV,hE,hB,hg0] at hgn hg1
    rw[hE] at hhf hEb
    rw[hV] at hVb
    rw[hB] at hBb
    obtain⟨ha,hb⟩:=hgn
    have hq0:0≤2-(V:Int)+(E:Int)-(B:Int):=by omega
    have HG1:=Lib.hid hg1
    have HPF:=Lib.hid hpf
    have HHF:=Lib.hid hhf
    have HP1:=Lib.hid hP1
    have HBe:=Lib.hid hB
    clear hP1 hV hB hE hg0 hg1 hpf hhf hb
    go_wp2_with fail
    refine HP1.out.mono ?_
    rintro e w3 ⟨rfl,he3⟩
    have HE3:=Lib.hid (HE.out.trans he3)
    have HO3:=Lib.hid (HO.out.ev he3)
    have hP2:=HO2.out w3 (HE2.out.trans HE3.out) _ _ (HF2.out.ev HE3.out) (HF1.out.ev HE3.out) (k:Int)
    rw[phiL_length,HL.out,HBe.out] at hP2
    have HP2:=Lib.hid hP2
    clear he3 x0 x1 x2 hcN hP2
    go_wp2_with fail
    refine HP2.out.mono ?_
    rintro e w4 ⟨rfl,he4⟩
    have HE4:=Lib.hid (HE3.out.trans he4)
    have HO4:=Lib.hid (HO3.out.ev he4)
    clear he4
    go_wp2_with fail
    obtain⟨T0,hT0⟩:∃ T0:TypeId,T0=83:=⟨_,rfl⟩
    have hblk:(w4.alloc (.cells #[.int .i64 (d:Int),.int .i64 (V:Int),.int .i64 0,.int .i64 (B:Int),.int .i64 0] T0)).heap[w4.heap.size]?=some (.cells #[.int .i64 (d:Int),.int .i64 (V:Int),.int .i64 0,.int .i64 (B:Int),.int .i64 0] T0 (0,0)):=heap_alloc_new w4 _
    have he5:=HE4.out.alloc (.cells #[.int .i64 (d:Int),.int .i64 (V:Int),.int .i64 0,.int .i64 (B:Int),.int .i64 0] T0)
    have ho5:=HO4.out.alloc (.cells #[.int .i64 (d:Int),.int .i64 (V:Int),.int .i64 0,.int .i64 (B:Int),.int .i64 0] T0)
    have hRg:R w4.heap.size=none:=HE4.out.inv.none_of_ge (Nat.le_refl _)
    have hsz4:=HE4.out.size
    have hob:∀ z,(Value.slice a3 k c3).ownBlock=some z→z<w4.heap.size:=fun z hz=>(HO4.out.lt z hz).2
    have HOB:=Lib.hid hob
    rw[hT0] at hblk he5 ho5
    obtain⟨w5,hw5⟩:∃ w5,w5=w4.alloc (.cells #[.int .i64 (d:Int),.int .i64 (V:Int),.int .i64 0,.int .i64 (B:Int),.int .i64 0] 83):=⟨_,rfl⟩
    rw[←hw5] at hblk he5 ho5 ⊢
    obtain⟨g,hg⟩:∃ g,w4.heap.size=g:=⟨_,rfl⟩
    rw[hg] at hblk hRg hsz4 HOB ⊢
    have HB5:=Lib.hid hblk
    have HE5:=Lib.hid he5
    have HO5:=Lib.hid ho5
    clear hblk he5 ho5 hw5 hg hT0 hob HE4 HO4 HE3 HO3 HP1 HP2
    have hDle:=fun i=>dcnt_le (partsL s) (k:Int) i
    have HDL:=Lib.hid hDle
    clear hDle
    go_loopg [40] n (fun gg v40 wr=>∃ (i:Nat) (D:Nat),i≤n∧n-i≤gg∧v40=.int .i64 (i:Int)∧D=dcnt (partsL s) (k:Int) i∧wr.heap[g]?=some (.cells #[.int .i64 (d:Int),.int .i64 (V:Int),.int .i64 (D:Int),.int .i64 (B:Int),.int .i64 0] 83 (0,0))∧Ev R w2 R wr∧OwnV R w2.heap.size 83 5 wr (.slice a3 k c3) k (flatF (partsF s) k))
    case atStart=>exact⟨0,0,by omega,by omega,rfl,rfl,HB5.out,HE5.out,HO5.out⟩
    case round=>
     obtain⟨i,D,hi,hg2,rfl,hD,hblk,he,ho⟩:=hrel
     have hDb:D≤i:=by rw[hD];exact HDL.out i
     have HD:=Lib.hid hD
     have HBk:=Lib.hid hblk
     have HEi:=Lib.hid he
     have HOi:=Lib.hid ho
     have f1:=cells_at hblk 1
     have f2:=cells_at hblk 2
     have f3:=cells_at hblk 3
     have f4:=cells_at hblk 4
     have z2:=free_at hblk 2
     have z4:=free_at hblk 4
     have q0:wr.cell? ⟨g,0,none⟩=some (.int .i64 (d:Int)):=cells_at hblk 0
     have q1:wr.cell? ⟨g,1,none⟩=some (.int .i64 (V:Int)):=f1
     have q2:wr.cell? ⟨g,2,none⟩=some (.int .i64 (D:Int)):=f2
     have q3:wr.cell? ⟨g,3,none⟩=some (.int .i64 (B:Int)):=f3
     have q4:wr.cell? ⟨g,4,none⟩=some (.int .i64 0):=f4
     have hne:∀ o:Nat,(Value.slice a3 k c3).ownBlock≠some (⟨g,o,none⟩:Addr).block:=fun o e=>Nat.lt_irrefl _ (HOB.out g e)
     have HNE:=Lib.hid hne
     clear hD hblk he ho f1 f2 f3 f4 hne
     by_cases hin:i<n
     ·obtain⟨bM,oM,e1,hcM⟩:=(HF1.out.ev HEi.out).1.cell (i:=i) (by rw[HOrd.out.len];exact hin)
      cases e1
      obtain⟨x,hx⟩:∃ x,nth (partsL s) i=x:=⟨_,rfl⟩
      rw[hx] at hcM
      have HX:=Lib.hid hx
      clear hx
      by_cases hxk:x=(k:Int)
      ·have heq2:(x == (k:Int))=true:=by rw[beq_iff_eq];exact hxk
       have HB2:=Lib.hid (heap_setCell_same wr g 2 _ _ (.int .i64 ((D:Int)+1)) HBk.out)
       have HE2':=Lib.hid (HEi.out.setCell (p:=⟨g,2,none⟩) hsz4 hRg (.int .i64 ((D:Int)+1)))
       have HO2':=Lib.hid (HOi.out.setCell (a:=⟨g,2,none⟩) (HNE.out 2) (.int .i64 ((D:Int)+1)))
       have HXK:=Lib.hid hxk
       clear hxk
       go_wp2_with fail
       go_roundg (n-(i+1))
       case measure=>omega
       case rel=>exact⟨i+1,D+1,by omega,by omega,by go_num,by rw[dcnt_succ,HX.out,if_pos HXK.out,HD.out],HB2.out,HE2'.out,HO2'.out⟩
      ·have heq2:(x == (k:Int))=false:=by rw[beq_eq_false_iff_ne];exact hxk
       go_wp2_with fail
       go_roundg (n-(i+1))
       case measure=>omega
       case rel=>exact⟨i+1,D,by omega,by omega,by go_num,by rw[dcnt_succ,HX.out,if_neg hxk,HD.out];rfl,HBk.out,HEi.out,HOi.out⟩
     ·obtain rfl:i=n:=by omega
      have hDE:D=2*E:=by rw[HD.out,HHF.out]
      have hdiv:(D:Int) / 2=(E:Int):=by omega
      have hg1:=HG1.out
      subst hg1
      have hb1:=heap_setCell_same wr g 2 _ _ (.int .i64 (E:Int)) HBk.out
      have hb2:=heap_setCell_same _ g 4 _ _ (.int .i64 ((2-(V:Int)+(E:Int)-(B:Int)) / 2)) hb1
      have he7:=((HEi.out.setCell (p:=⟨g,2,none⟩) hsz4 hRg (.int .i64 (E:Int))).setCell (p:=⟨g,4,none⟩) hsz4 hRg (.int .i64 ((2-(V:Int)+(E:Int)-(B:Int)) / 2))).alloc (.cells #[.int .i64 (d:Int),.int .i64 (V:Int),.int .i64 (E:Int),.int .i64 (B:Int),.int .i64 ((2-(V:Int)+(E:Int)-(B:Int)) / 2)] 83)
      have ho7:=((HOi.out.setCell (a:=⟨g,2,none⟩) (HNE.out 2) (.int .i64 (E:Int))).setCell (a:=⟨g,4,none⟩) (HNE.out 4) (.int .i64 ((2-(V:Int)+(E:Int)-(B:Int)) / 2))).alloc (.cells #[.int .i64 (d:Int),.int .i64 (V:Int),.int .i64 (E:Int),.int .i64 (B:Int),.int .i64 ((2-(V:Int)+(E:Int)-(B:Int)) / 2)] 83)
      have HE7:=Lib.hid he7
      have HO7:=Lib.hid ho7
      have hszw:=HEi.out.size
      clear he7 ho7
      clear hb1 hb2
      subst hDE
      go_wp2_with (at_builtin;refine wpList_app_row 41 83 5 40 _ Try.underlying41 rpart_info rfl (by omega) (by omega) (R:=R) (B:=w2.heap.size) rfl _ _ rfl HO7.out rfl ⟨wr.heap.size,0,none⟩ 1 1 (partC ⟨(d:Int),(V:Int),(E:Int),(B:Int),(2-(V:Int)+(E:Int)-(B:Int)) / 2⟩) rfl rfl ?g1 ?g2 ?g3 ?g4 ?g5 ?_)
      case g1=>first|exact fun _ _ h=>h|(intro j u h;have:=new_cells ((wr.setCell ⟨g,2,none⟩ (.int .i64 (E:Int))).setCell ⟨g,4,none⟩ (.int .i64 ((2-(V:Int)+(E:Int)-(B:Int)) / 2))) _ 83 j u h;simpa using this)
      case g2=>
       intro u hu
       simp only[partC,List.mem_cons,List.not_mem_nil,or_false] at hu
       rcases hu with rfl|rfl|rfl|rfl|rfl <;> rfl
      case g3=>omega
      case g4=>first|omega|(simp;omega)
      case g5=>exact fun q hq=>HE7.out.inv.none_of_ge (by simp at hq ⊢;omega)
      intro v' w8 ho8 hg8 _
      have HE8:=Lib.hid (HE7.out.appV HO7.out (Nat.le_refl _) hg8)
      have HO8:=Lib.hid ho8
      clear ho8 hg8
      go_wp2_with fail
      go_roundg (i-(d+1))
      case measure=>omega
      case rel=>
       have ho6:=HO8.out
       rw[←HPF.out] at ho6
       obtain⟨a6,c6,rfl,_⟩:=ho6.open
       exact⟨d+1,by omega,by omega,by go_num,HE8.out,by rw[HQ1.out];exact⟨a6,c6,rfl,ho6⟩⟩
   ·have heq:((k:Int) != (q:Int))=true:=by rw[bne_iff_ne];omega
    obtain rfl:q1=q:=by omega
    clear hor
    go_wp2_with fail
    go_roundg (n-(d+1))
    case measure=>omega
    case rel=>exact⟨d+1,by omega,by omega,by go_num,HE.out,by rw[HQ1.out];exact⟨a3,c3,rfl,HO.out⟩⟩
  ·obtain rfl:d=n:=by omega
   rw[HCN.out] at HO ⊢
   obtain⟨C,hC⟩:∃ C,partsN s=C:=⟨_,rfl⟩
   have hcle:=HOrd.out.cnt_le (Nat.le_refl d)
   rw[HCN.out] at hcle
   rw[hC] at HO hcle ⊢
   have HC:=Lib.hid hC
   have HLn:Hid (∀ i,C≤i→partsF s i=loneR):=Lib.hid (fun i hi=>by
    unfold partsF
    rw[if_neg (by rw[hC];omega)])
   have HX:=Lib.hid (fun w' (h:Ev R w2 R w')=>(HCL.out w' (HEb.out.trans h)).2.2)
   obtain⟨wj2,hwj⟩:∃ wj:World,wj=wr:=⟨_,rfl⟩
   subst hwj
   clear hC hdn hd hg
   go_wp2_with fail
   go_loopg [3,11] lone (fun g v3 v11 wr=>∃ i:Nat,i≤lone∧lone-i≤g∧v11=.int .i64 (i:Int)∧Ev R w2 R wr∧OwnRs R w2.heap.size wr v3 (C+i) (partsF s))
   case atStart=>exact⟨0,Nat.zero_le _,by omega,rfl,HE.out,_,_,rfl,HO.out⟩
   case round=>
    obtain⟨i,hi,hg,rfl,he,a3,c3,rfl,ho⟩:=hrel
    have HEx:=Lib.hid he
    have HOx:=Lib.hid ho
    have x2:=HX.out wr he
    clear he ho
    by_cases hil:i<lone
    ·have ho4:=HOx.out.alloc (.cells #[.int .i64 (-1),.int .i64 1,.int .i64 0,.int .i64 1,.int .i64 0] 83)
     have he4:=HEx.out.alloc (.cells #[.int .i64 (-1),.int .i64 1,.int .i64 0,.int .i64 1,.int .i64 0] 83)
     have HO4:=Lib.hid ho4
     have HE4:=Lib.hid he4
     have hsz:=HEx.out.size
     clear ho4 he4
     go_wp2_with (at_builtin;refine wpList_app_row 41 83 5 40 _ Try.underlying41 rpart_info rfl (by omega) (by omega) (R:=R) (B:=w2.heap.size) rfl _ _ rfl HO4.out rfl ⟨wr.heap.size,0,none⟩ 1 1 (partC loneR) rfl rfl ?g6 ?g7 ?g8 ?g9 ?g0 ?_)
     case g6=>exact fun j u h=>new_cells wr (partC loneR) _ j u h
     case g7=>
      intro u hu
      simp only[partC,loneR,List.mem_cons,List.not_mem_nil,or_false] at hu
      rcases hu with rfl|rfl|rfl|rfl|rfl <;> rfl
     case g8=>omega
     case g9=>first|omega|(simp;omega)
     case g0=>exact fun q hq=>HE4.out.inv.none_of_ge (by simp at hq ⊢;omega)
     intro v' w5 ho5 hg5 _
     have HE5:=Lib.hid (HE4.out.appV HO4.out (Nat.le_refl _) hg5)
     have HO5:=Lib.hid ho5
     clear ho5 hg5
     go_wp2_with fail
     go_roundg (lone-(i+1))
     case measure=>omega
     case rel=>
      have ho6:=HO5.out
      rw[←HLn.out (C+i) (by omega)] at ho6
      obtain⟨a6,c6,rfl,_⟩:=ho6.open
      exact⟨i+1,by omega,by omega,by go_num,HE5.out,a6,c6,rfl,ho6⟩
    ·obtain rfl:i=lone:=by omega
     go_wp2_with fail
     go_ret
     refine⟨_,rfl,HE2.out.trans HEx.out,?_⟩
     rw[HC.out]
     exact⟨a3,c3,rfl,HOx.out.mono HE2.out.size⟩
end
section
open Go.RowKit
set_option linter.unusedVariables false
def sumG (f:Nat→PartR):Nat→Int
 | 0=>0
 | k+1=>sumG f k+(f k).g
theorem sumG_succ (f:Nat→PartR) (k:Nat):sumG f (k+1)=sumG f k+(f k).g:=rfl
theorem sumG_bound {f:Nat→PartR} (h:∀ k,0≤(f k).g∧(f k).g≤65538):∀ k,0≤sumG f k∧sumG f k≤65538*(k:Int)
 | 0=>⟨Int.le_refl _,by simp[sumG]⟩
 | k+1=>by have:=sumG_bound h k;have:=h k;rw[sumG_succ];omega
theorem sumG_parts (s:List Nat):∀ k,k≤partsN s→sumG (partsF s) k=genusTo s k
 | 0,_=>rfl
 | k+1,hk=>by
  rw[sumG_succ,sumG_parts s k (by omega)]
  unfold partsF
  rw[if_pos (by omega)]
  rfl
theorem sumG_all (s:List Nat):∀ lone,sumG (partsF s) (partsN s+lone)=genusL s
 | 0=>sumG_parts s _ (Nat.le_refl _)
 | l+1=>by
  rw[←Nat.add_assoc,sumG_succ,sumG_all s l]
  unfold partsF
  rw[if_neg (by omega)]
  show _+0=_
  omega
set_option maxRecDepth 100000 in
set_option maxHeartbeats 2000000 in
theorem egenus_any (R:Reg) (w:World) (hI:Inv R w) (p:Value) (s:List Nat) (root:Int) (lone:Nat) (hp:MapAt R p s root lone):
  Calls Try.prog 20 #[p] w (RetV R w (.int .i64 (genusL s))):=by
 obtain⟨hs,hok⟩:=hp.ok hI
 have he2:s.length % 2=0:=hok.1
 have hn:s.length≤131073:=hok.2.1
 have hlone:lone≤65536:=by have:=hok.2.2;omega
 have hpn:=partsN_le hs he2
 have HP:=Lib.hid (eparts_any R w hI p s root lone hp)
 have hG:=partsF_g hs he2 hn
 have HS:Hid (∀ i,i≤partsN s+lone→0≤sumG (partsF s) i∧sumG (partsF s) i≤65538*300000):=Lib.hid (fun i hi=>by have:=sumG_bound hG i;omega)
 have HG:=Lib.hid hG
 have HA:=Lib.hid (sumG_all s lone)
 have hcl:partsN s+lone≤300000:=by omega
 clear hI hp hs hok hG
 go_enter Try.func20,Try.ntmps20
 go_wp2_with fail
 refine HP.out.mono ?_
 rintro e w1 ⟨v,R1,rfl,he,a,c,rfl,ho⟩
 have HO:=Lib.hid ho
 have HE:=Lib.hid he
 clear ho he
 go_wp2_with fail
 go_loopg [3,9] (partsN s+lone) (fun gg v3 v9 wr=>∃ i:Nat,i≤partsN s+lone∧partsN s+lone-i≤gg∧v3=.int .i64 (sumG (partsF s) i)∧v9=.int .i64 (i:Int)∧Ev R1 w1 R1 wr)
 case atStart=>exact⟨0,by omega,by omega,rfl,rfl,Ev.refl HE.out.inv⟩
 case round=>
  obtain⟨i,hi,hg,rfl,rfl,hev⟩:=hrel
  have HEv:=Lib.hid hev
  clear hev
  by_cases hil:i<partsN s+lone
  ·obtain⟨b0,b1⟩:=HS.out i (by omega)
   obtain⟨b2,b3⟩:=HG.out i
   have ho:=HO.out.ev HEv.out
   obtain⟨gb,rfl,_,_,c0,_⟩:=ho.headAt (i:=i*5+0) (by rw[flatF_length];omega)
   obtain⟨_,e1,_,_,c1,_⟩:=ho.headAt (i:=i*5+1) (by rw[flatF_length];omega)
   cases e1
   obtain⟨_,e1,_,_,c2,_⟩:=ho.headAt (i:=i*5+2) (by rw[flatF_length];omega)
   cases e1
   obtain⟨_,e1,_,_,c3,_⟩:=ho.headAt (i:=i*5+3) (by rw[flatF_length];omega)
   cases e1
   obtain⟨_,e1,_,_,c4,_⟩:=ho.headAt (i:=i*5+4) (by rw[flatF_length];omega)
   cases e1
   rw[flatF_get (by omega) hil] at c0 c1 c2 c3 c4
   have HSs:=Lib.hid (sumG_succ (partsF s) i)
   obtain⟨S,hS⟩:∃ S,sumG (partsF s) i=S:=⟨_,rfl⟩
   obtain⟨p,hp⟩:∃ p,partsF s i=p:=⟨_,rfl⟩
   rw[hS] at b0 b1 HSs ⊢
   rw[hp] at b2 b3 HSs c0 c1 c2 c3 c4
   obtain⟨pr,pv,pe,pb,pg⟩:=p
   have HSs:Hid (sumG (partsF s) (i+1)=S+pg):=HSs
   have b2:0≤pg:=b2
   have b3:pg≤65538:=b3
   have k0:wr.cell? ⟨gb,i*5,none⟩=some (.int .i64 pr):=c0
   have k1:wr.cell? ⟨gb,i*5+1,none⟩=some (.int .i64 pv):=c1
   have k2:wr.cell? ⟨gb,i*5+2,none⟩=some (.int .i64 pe):=c2
   have k3:wr.cell? ⟨gb,i*5+3,none⟩=some (.int .i64 pb):=c3
   have k4:wr.cell? ⟨gb,i*5+4,none⟩=some (.int .i64 pg):=c4
   clear c0 c1 c2 c3 c4 hS hp ho
   go_wp2_with fail
   go_roundg (partsN s+lone-(i+1))
   case measure=>omega
   case rel=>exact⟨i+1,by omega,by omega,by rw[HSs.out],by go_num,HEv.out.alloc _⟩
  ·obtain rfl:i=partsN s+lone:=by omega
   go_wp2_with fail
   go_ret
   rw[HA.out]
   exact⟨rfl,R1,HE.out.trans HEv.out⟩
set_option maxRecDepth 100000 in
set_option maxHeartbeats 2000000 in
theorem r8genus_any (R:Reg) (w:World) (hI:Inv R w) (v:Value) (s:List Nat) (root:Int) (lone:Nat) (hv:FreeI R w v (toI s)) (hs:IsPerm s) (hn:s.length≤131073) (he2:s.length % 2=0) (hlone:lone≤65536):
  Calls Try.prog 13 #[refV v root lone] w (RetE R w (.int .i64 (genusL s))):=by
 obtain⟨a0,cap0,rfl,hv⟩:=hv.open
 rw[toI_length] at hv ⊢
 have hpn:=partsN_le hs he2
 have he0:Ev R w R (w.alloc (.cells #[.slice a0 s.length cap0,.int .i64 root,.int .i64 lone] 27)):=(Ev.refl hI).alloc _
 have HP:=Lib.hid (r8parts_any R _ he0.inv _ s root lone (hv.ev he0) hs hn he2 hlone)
 have hG:=partsF_g hs he2 hn
 have HS:Hid (∀ i,i≤partsN s+lone→0≤sumG (partsF s) i∧sumG (partsF s) i≤65538*300000):=Lib.hid (fun i hi=>by have:=sumG_bound hG i;omega)
 have HG:=Lib.hid hG
 have HA:=Lib.hid (sumG_all s lone)
 have hcl:partsN s+lone≤300000:=by omega
 have HE0:=Lib.hid he0
 obtain⟨R1,hR1⟩:∃ R1,R1=R:=⟨_,rfl⟩
 rw[←hR1] at HE0 HP
 unfold refV at HP ⊢
 clear hI hv hs hG he0
 go_enter Try.func13,Try.ntmps13
 go_wp2_with fail
 refine HP.out.mono ?_
 rintro e w1 ⟨v,rfl,he,a,c,rfl,ho⟩
 have HO:=Lib.hid ho
 have HE:=Lib.hid he
 clear ho he
 go_wp2_with fail
 go_loopg [3,9] (partsN s+lone) (fun gg v3 v9 wr=>∃ i:Nat,i≤partsN s+lone∧partsN s+lone-i≤gg∧v3=.int .i64 (sumG (partsF s) i)∧v9=.int .i64 (i:Int)∧Ev R1 w1 R1 wr)
 case atStart=>exact⟨0,by omega,by omega,rfl,rfl,Ev.refl HE.out.inv⟩
 case round=>
  obtain⟨i,hi,hg,rfl,rfl,hev⟩:=hrel
  have HEv:=Lib.hid hev
  clear hev
  by_cases hil:i<partsN s+lone
  ·obtain⟨b0,b1⟩:=HS.out i (by omega)
   obtain⟨b2,b3⟩:=HG.out i
   have ho:=HO.out.ev HEv.out
   obtain⟨gb,rfl,_,_,c0,_⟩:=ho.headAt (i:=i*5+0) (by rw[flatF_length];omega)
   obtain⟨_,e1,_,_,c1,_⟩:=ho.headAt (i:=i*5+1) (by rw[flatF_length];omega)
   cases e1
   obtain⟨_,e1,_,_,c2,_⟩:=ho.headAt (i:=i*5+2) (by rw[flatF_length];omega)
   cases e1
   obtain⟨_,e1,_,_,c3,_⟩:=ho.headAt (i:=i*5+3) (by rw[flatF_length];omega)
   cases e1
   obtain⟨_,e1,_,_,c4,_⟩:=ho.headAt (i:=i*5+4) (by rw[flatF_length];omega)
   cases e1
   rw[flatF_get (by omega) hil] at c0 c1 c2 c3 c4
   have HSs:=Lib.hid (sumG_succ (partsF s) i)
   obtain⟨S,hS⟩:∃ S,sumG (partsF s) i=S:=⟨_,rfl⟩
   obtain⟨p,hp⟩:∃ p,partsF s i=p:=⟨_,rfl⟩
   rw[hS] at b0 b1 HSs ⊢
   rw[hp] at b2 b3 HSs c0 c1 c2 c3 c4
   obtain⟨pr,pv,pe,pb,pg⟩:=p
   have HSs:Hid (sumG (partsF s) (i+1)=S+pg):=HSs
   have b2:0≤pg:=b2
   have b3:pg≤65538:=b3
   have k0:wr.cell? ⟨gb,i*5,none⟩=some (.int .i64 pr):=c0
   have k1:wr.cell? ⟨gb,i*5+1,none⟩=some (.int .i64 pv):=c1
   have k2:wr.cell? ⟨gb,i*5+2,none⟩=some (.int .i64 pe):=c2
   have k3:wr.cell? ⟨gb,i*5+3,none⟩=some (.int .i64 pb):=c3
   have k4:wr.cell? ⟨gb,i*5+4,none⟩=some (.int .i64 pg):=c4
   clear c0 c1 c2 c3 c4 hS hp ho
   go_wp2_with fail
   go_roundg (partsN s+lone-(i+1))
   case measure=>omega
   case rel=>exact⟨i+1,by omega,by omega,by rw[HSs.out],by go_num,HEv.out.alloc _⟩
  ·obtain rfl:i=partsN s+lone:=by omega
   go_wp2_with fail
   go_ret
   rw[HA.out]
   subst hR1
   exact⟨rfl,HE0.out.trans (HE.out.trans HEv.out)⟩
end
section
open Go.RowKit
set_option linter.unusedVariables false
end
section
open Go.RowKit
set_option linter.unusedVariables false
theorem make_eq {n:Nat} {z:Value} {t e:TypeId} {i:TypeInfo} (h1:Try.prog.underlying t=some (.slice e)) (h2:Try.prog.info? e=some i) (h3:i.zero=some z) (h4:i.size=1) (b2:i.bytes*n≤281474976710656) (b3:n≤maxLen) (W:World):
  (Instr.makeSlice t (.int .i64 (n:Int)) (.int .i64 (n:Int))).run Try.prog W=.ok (.slice (some ⟨W.heap.size,0,none⟩) n n) (W.alloc (.cells (madeCells z.cells (n*1)) e)):=by
 have h63':(n:Int)≤9223372036854775807:=by
  have h:=b3
  simp[maxLen] at h
  omega
 have hb':(i.bytes:Int)*(n:Int)≤281474976710656:=by
  have h:((i.bytes*n:Nat):Int)≤281474976710656:=by omega
  rwa [Int.natCast_mul] at h
 have hr:=run_make (P:=Try.prog) W t e i z h1 h2 h3 .i64 .i64 n n (by omega) (Int.le_refl _) hb' h63'
 simp only[Int.toNat_natCast,h4] at hr
 exact hr
theorem rowI_made {R:Reg} {W:World} {B n:Nat} (hI:Inv R W) (hB:B≤W.heap.size) (hn:n≤maxLen):
  OwnI R B 3 (W.alloc (.cells (madeCells #[.int .i64 0] (n*1)) 3)) (.slice (some ⟨W.heap.size,0,none⟩) n n) (List.replicate n 0):=by
 have h:=World.ownsRow_lit (size:=1) (e:=3) W _ n hB hn (size_madeCells #[.int .i64 0] (n*1))
 exact OwnI.made hI (by simpa using h)
end
section
open Go.RowKit
set_option linter.unusedVariables false
end
section
set_option linter.unusedVariables false
def opL (L:List Int) (i:Nat):Bool:=decide (nth L i=1)
def mateL (op:Nat→Bool) (n i:Nat):List Int:=(List.range n).map fun j=>(((stk op i).2 j:Nat):Int)
def stackL (op:Nat→Bool) (i:Nat):List Int:=toI (stk op i).1.reverse
theorem mateL_length (op:Nat→Bool) (n i:Nat):(mateL op n i).length=n:=by simp[mateL]
theorem mateL_nth {op:Nat→Bool} {n i j:Nat} (h:j<n):nth (mateL op n i) j=(((stk op i).2 j:Nat):Int):=by
 simp[mateL,nth,h]
theorem mateL_zero (op:Nat→Bool) (n:Nat):mateL op n 0=List.replicate n 0:=by
 refine List.ext_getElem (by simp[mateL]) fun i h1 h2=>?_
 simp[mateL,stk]
theorem mateL_open {op:Nat→Bool} {n i:Nat} (h:op i=true):mateL op n (i+1)=mateL op n i:=by
 unfold mateL;rw[stk_open h]
theorem nth_set_if (xs:List Int) (i j:Nat) (y:Int) (hj:j<xs.length):nth (xs.set i y) j=if i=j then y else nth xs j:=by
 by_cases h:i=j
 ·subst h
  simp[nth,hj]
 ·simp[nth,h]
theorem mateL_close {op:Nat→Bool} {n i o:Nat} {r:List Nat} (h:op i=false) (hs:(stk op i).1=o :: r):mateL op n (i+1)=((mateL op n i).set i (o:Int)).set o (i:Int):=by
 refine ext_nth (by simp[mateL_length]) fun j hj=>?_
 rw[mateL_length] at hj
 rw[mateL_nth hj,stk_close h hs,nth_set_if _ _ _ _ (by rw[List.length_set,mateL_length];exact hj),nth_set_if _ _ _ _ (by rw[mateL_length];exact hj),mateL_nth hj]
 show (((if j=o then i else if j=i then o else (stk op i).2 j:Nat)):Int)=_
 by_cases h1:j=o
 ·rw[if_pos h1,if_pos h1.symm]
 ·have h1':¬ o=j:=fun e=>h1 e.symm
  by_cases h2:j=i
  ·subst h2;simp[h1,h1']
  ·have h2':¬ i=j:=fun e=>h2 e.symm
   simp[h1,h1',h2,h2']
theorem stackL_open {op:Nat→Bool} {i:Nat} (h:op i=true):stackL op (i+1)=stackL op i ++ [(i:Int)]:=by
 unfold stackL;rw[stk_open h];simp[toI]
theorem stackL_close {op:Nat→Bool} {i o:Nat} {r:List Nat} (h:op i=false) (hs:(stk op i).1=o :: r):stackL op i=stackL op (i+1) ++ [(o:Int)]:=by
 unfold stackL;rw[stk_close h hs,hs];simp[toI]
theorem stk_height (op:Nat→Bool):∀ i,(stk op i).1.length≤i
 | 0=>Nat.le_refl _
 | i+1=>by
  have h:=stk_height op i
  cases ho:op i with
  | true=>rw[stk_open ho];simp;omega
  | false=>
   cases hs:(stk op i).1 with
   | nil=>
    show ((if op i=true then _ else _:List Nat × (Nat→Nat))).1.length≤_
    rw[if_neg (by simp[ho]),hs]
    simp
   | cons o r=>
    rw[stk_close ho hs]
    rw[hs] at h
    simp at h ⊢
    omega
theorem stackL_length (op:Nat→Bool) (i:Nat):(stackL op i).length≤i:=by
 have:=stk_height op i
 simp[stackL,toI]
 exact this
end
end Go.Proofs.Ytklkgicjfnbndaa
