/- parquetryref08.Triangulation. -/
import Derived.Test.YtgphnkkdmlohlaaGreatDoorZWoodNo23
import Derived.Test.YtgphnkkdmlohlaaGreatDoorZWoodNo14
import Derived.Test.YtgphnkkdmlohlaaGreatDoorZWoodNo12
import Derived.Test.YtgphnkkdmlohlaaGreatDoorZWoodNo20
namespace Go.Proofs.YtgphnkkdmlohlaaGreatDoor
section
open Go.RowKit
set_option linter.unusedVariables false
theorem orbit_three {t:List Nat} (ht:IsPerm t) {d:Nat} (hd:d<t.length):(orbitL t d).length=3↔at' t (at' t (at' t d))=d∧at' t d≠d:=by
 unfold orbitL
 have hr:=ht.reach hd
 by_cases h1:at' t d=d
 ·rw[h1,orbitGo_end]
  simp
 ·obtain⟨f1,e1,r1⟩:=hr.next h1
  rw[e1,orbitGo_next h1]
  by_cases h2:at' t (at' t d)=d
  ·rw[h2,orbitGo_end]
   simp[h1]
  ·obtain⟨f2,e2,r2⟩:=r1.next h2
   rw[e2,orbitGo_next h2]
   by_cases h3:at' t (at' t (at' t d))=d
   ·rw[h3,orbitGo_end]
    simp[h1]
   ·obtain⟨f3,e3,r3⟩:=r2.next h3
    rw[e3,orbitGo_next h3]
    simp[h1,h3]
theorem triTo_orbit {s:List Nat} (hs:IsPerm s) (he:s.length % 2=0) {d:Nat} (hd:d<s.length):triTo s (d+1)=(triTo s d && decide ((orbitL (phiL s) d).length=3)):=by
 have h:=orbit_three (phiL_perm hs he) (d:=d) (by rw[phiL_length];exact hd)
 show (triTo s d && (at' (phiL s) (at' (phiL s) (at' (phiL s) d)) == d && !(at' (phiL s) d == d)))=_
 have e:(at' (phiL s) (at' (phiL s) (at' (phiL s) d)) == d && !(at' (phiL s) d == d))=decide ((orbitL (phiL s) d).length=3):=by
  rw[Bool.eq_iff_iff,Bool.and_eq_true,beq_iff_eq,decide_eq_true_eq,h]
  simp
 rw[e]
theorem simpB_sum (s:List Nat):simpB s=decide (loopsL s+dblsL s=0):=by
 unfold simpB
 rw[Bool.eq_iff_iff,decide_eq_true_eq,decide_eq_true_eq]
 omega
set_option maxRecDepth 100000 in
set_option maxHeartbeats 4000000 in
theorem r8tri_any (R:Reg) (w:World) (hI:Inv R w) (v:Value) (s:List Nat) (root:Int) (lone:Nat) (hv:FreeI R w v (toI s)) (hs:IsPerm s) (hn:s.length≤131073) (he2:s.length % 2=0) (hlone:lone≤65536):
  Calls Tryz.prog 23 #[refV v root lone] w (RetE R w (.bool (triB s lone))):=by
 obtain⟨a0,cap0,rfl,hv⟩:=hv.open
 rw[toI_length] at hv ⊢
 have he0:Ev R w R (w.alloc (.cells #[.slice a0 s.length cap0,.int .i64 root,.int .i64 lone] 27)):=(Ev.refl hI).alloc _
 obtain⟨w0,hw0⟩:∃ w0,w0=w.alloc (.cells #[.slice a0 s.length cap0,.int .i64 root,.int .i64 lone] 27):=⟨_,rfl⟩
 have hsz0:w0.heap.size=w.heap.size+1:=by rw[hw0];simp
 have hcells:∀ w',Ev R w0 R w'→w'.cell? ⟨w.heap.size,0,none⟩=some (.slice a0 s.length cap0)∧w'.cell? ⟨w.heap.size,1,none⟩=some (.int .i64 root)∧w'.cell? ⟨w.heap.size,2,none⟩=some (.int .i64 lone):=fun w' h=>by
  refine⟨?_,?_,?_⟩ <;> (rw[h.cell (by omega) (hI.none_of_ge (Nat.le_refl _)),hw0];simp)
 have HCL:=Lib.hid hcells
 rw[←hw0] at he0
 obtain⟨V,hV⟩:∃ V:Nat,(sizesL s).length+lone=V:=⟨_,rfl⟩
 obtain⟨C,hC⟩:∃ C:Nat,partsN s+lone=C:=⟨_,rfl⟩
 obtain⟨G,hG⟩:∃ G,genusL s=G:=⟨_,rfl⟩
 obtain⟨l,hl⟩:∃ l,loopsL s=l:=⟨_,rfl⟩
 obtain⟨d2,hd2⟩:∃ l,dblsL s=l:=⟨_,rfl⟩
 have hlb:=loopsTo_le s (s.length / 2)
 have hdb:=dblsTo_le s (s.length / 2)
 rw[show loopsTo s (s.length / 2)=loopsL s from rfl,hl] at hlb
 rw[show dblsTo s (s.length / 2)=dblsL s from rfl,hd2] at hdb
 have K1:Hid (∀ w',Ev R w0 R w'→Calls Tryz.prog 24 #[refV (.slice a0 s.length cap0) root lone] w' (RetE R w' (.int .i64 (V:Int)))):=Lib.hid (fun w' he=>by
  have:=rvertices_any R w' he.inv _ s root lone (hv.ev (he0.trans he)) hs (by omega) (by omega) (by omega)
  rwa [show (((sizesL s).length:Int)+(lone:Int))=(V:Int) by omega] at this)
 have K2:Hid (∀ w',Ev R w0 R w'→Calls Tryz.prog 55 #[refV (.slice a0 s.length cap0) root lone] w' (fun e w2=>∃ a c,e=.returned (.slice a C c)∧Ev R w' R w2)):=Lib.hid (fun w' he=>
  (r8parts_any R w' he.inv _ s root lone (hv.ev (he0.trans he)) hs hn he2 hlone).mono (by
   rintro e w2 ⟨v,rfl,he3,a,c,rfl,_⟩
   rw[hC]
   exact⟨a,c,rfl,he3⟩))
 have K3:Hid (∀ w',Ev R w0 R w'→Calls Tryz.prog 56 #[refV (.slice a0 s.length cap0) root lone] w' (RetE R w' (.int .i64 G))):=Lib.hid (fun w' he=>by
  have:=r8genus_any R w' he.inv _ s root lone (hv.ev (he0.trans he)) hs hn he2 hlone
  rwa [hG] at this)
 have K4:Hid (∀ w',Ev R w0 R w'→Calls Tryz.prog 57 #[refV (.slice a0 s.length cap0) root lone] w' (RetE R w' (.int .i64 (l:Int)))):=Lib.hid (fun w' he=>by
  have:=r8loops_any R w' he.inv _ s root lone (hv.ev (he0.trans he)) hs hn he2
  rwa [hl] at this)
 have K5:Hid (∀ w',Ev R w0 R w'→Calls Tryz.prog 58 #[refV (.slice a0 s.length cap0) root lone] w' (RetE R w' (.int .i64 (d2:Int)))):=Lib.hid (fun w' he=>by
  have:=r8doubles_any R w' he.inv _ s root lone (hv.ev (he0.trans he)) hs hn he2
  rwa [hd2] at this)
 have K6:=Lib.hid (fun w' (he:Ev R w0 R w')=>rphi_any R w' he.inv _ s root lone (hv.ev (he0.trans he)) (by omega) he2)
 have K7:=Lib.hid (fun w' (he:Ev R w0 R w') v (hv:FreeI R w' v (toI (phiL s))) d (hd:d<s.length)=>rorbit_any R w' he.inv v (phiL s) hv (phiL_perm hs he2) (by rw[phiL_length];omega) d (by rw[phiL_length];exact hd))
 have HTO:=Lib.hid (fun d (hd:d<s.length)=>triTo_orbit hs he2 hd)
 have HB:Hid (triB s lone=(decide (3≤V) && (decide (C=1) && ((G == 0) && (decide (l+d2=0) && triTo s s.length))))):=Lib.hid (by unfold triB;rw[simpB_sum,hV,hC,hG,hl,hd2])
 have HE0:=Lib.hid he0
 obtain⟨n,hnn⟩:∃ n,s.length=n:=⟨_,rfl⟩
 have HPL:Hid ((toI (phiL s)).length=n):=Lib.hid (by rw[toI_length,phiL_length,hnn])
 rw[hnn] at hn hlb hdb HCL K1 K2 K3 K4 K5 K6 K7 HB HTO hw0 ⊢
 unfold refV at K1 K2 K3 K4 K5 K6 ⊢
 have hwr:IntKind.i64.wrap ((l:Int)+(d2:Int))=(l:Int)+(d2:Int):=IntWalk.i64_in _ (by omega)
 have HW:=Lib.hid hwr
 have HEd:=Lib.hid ((Ev.refl he0.inv).drew)
 have HI0:=Lib.hid (Ev.refl he0.inv)
 clear hI hv hs he2 he0 hcells hV hC hG hl hd2 hnn hlb hdb hwr
 by_cases h1:V<3
 ·have g1:decide ((V:Int)<3)=true:=by simp;omega
  have HBf:Hid (triB s lone=false):=Lib.hid (by rw[HB.out,decide_eq_false (by omega)];rfl)
  clear h1
  obtain⟨x0,x1,x2⟩:=HCL.out _ HEd.out
  go_enter Tryz.func23,Tryz.ntmps23
  go_wp2_with fail
  rw[←hw0]
  clear hw0
  go_region_with (first|(go_at_call 24;refine (K1.out _ HEd.out).mono ?_;rintro e w' ⟨rfl,he⟩;have HEd:=Lib.hid (HEd.out.trans he);clear he;obtain⟨x0,x1,x2⟩:=HCL.out _ HEd.out))
  all_goals go_wp2_with fail
  all_goals go_ret
  all_goals exact⟨ret_bool HBf.out.symm,HE0.out.trans HEd.out⟩
 ·have g1:decide ((V:Int)<3)=false:=by simp;omega
  by_cases h2:C=1
  ·have g2:((C:Int) != 1)=false:=by rw[bne_eq_false_iff_eq];omega
   by_cases h3:G=0
   ·have g3:(G != 0)=false:=by rw[bne_eq_false_iff_eq];exact h3
    by_cases h4:l+d2=0
    ·have g4:((l:Int)+(d2:Int) != 0)=false:=by rw[bne_eq_false_iff_eq];omega
     have HB2:Hid (triB s lone=triTo s n):=Lib.hid (by rw[HB.out,decide_eq_true (by omega),decide_eq_true h2,decide_eq_true h4,h3];rfl)
     clear h1 h2 h3 h4
     have hwr:=HW.out
     obtain⟨x0,x1,x2⟩:=HCL.out _ HEd.out
     go_enter Tryz.func23,Tryz.ntmps23
     go_wp2_with fail
     rw[←hw0]
     clear hw0
     go_cut [26] (fun s26 wx=>s26=.bool false∧Ev R w0 R wx)
     case first=>
      go_region_with (first|(go_at_call 24;refine (K1.out _ HEd.out).mono ?_;rintro e w' ⟨rfl,he⟩;have HEd:=Lib.hid (HEd.out.trans he);clear he;obtain⟨x0,x1,x2⟩:=HCL.out _ HEd.out)|(go_at_call 55;refine (K2.out _ HEd.out).mono ?_;rintro e w' ⟨a',c',rfl,he⟩;have HEd:=Lib.hid (HEd.out.trans he);clear he;obtain⟨x0,x1,x2⟩:=HCL.out _ HEd.out)|(go_at_call 56;refine (K3.out _ HEd.out).mono ?_;rintro e w' ⟨rfl,he⟩;have HEd:=Lib.hid (HEd.out.trans he);clear he;obtain⟨x0,x1,x2⟩:=HCL.out _ HEd.out)|(go_at_call 57;refine (K4.out _ HEd.out).mono ?_;rintro e w' ⟨rfl,he⟩;have HEd:=Lib.hid (HEd.out.trans he);clear he;obtain⟨x0,x1,x2⟩:=HCL.out _ HEd.out)|(go_at_call 58;refine (K5.out _ HEd.out).mono ?_;rintro e w' ⟨rfl,he⟩;have HEd:=Lib.hid (HEd.out.trans he);clear he;obtain⟨x0,x1,x2⟩:=HCL.out _ HEd.out))
      all_goals (go_wp2_with fail;go_meet)
      all_goals exact⟨rfl,HEd.out⟩
     case rest=>
      obtain⟨rfl,he⟩:=hcut
      have HE1:=Lib.hid he
      clear he x0 x1 x2
      obtain⟨x0,x1,x2⟩:=HCL.out _ HE1.out
      go_wp2_with fail
      refine (K6.out _ HE1.out).mono ?_
      rintro e w2 ⟨vp,rfl,he2,ho2⟩
      obtain⟨ap,cp,rfl,hf2⟩:=ho2.free.open
      rw[HPL.out] at hf2 ⊢
      have HE2:=Lib.hid (HE1.out.trans he2)
      have HF2:=Lib.hid hf2
      clear he2 ho2 hf2 x0 x1 x2
      go_wp2_with fail
      go_loopg [31] n (fun g v31 wr=>∃ d:Nat,d≤n∧n-d≤g∧v31=.int .i64 (d:Int)∧triTo s d=true∧Ev R w2 R wr)
      case atStart=>exact⟨0,by omega,by omega,rfl,rfl,Ev.refl HE2.out.inv⟩
      case round=>
       obtain⟨d,hd,hg,rfl,ht,he⟩:=hrel
       have HT:=Lib.hid ht
       have HE3:=Lib.hid he
       clear ht he
       by_cases hdn:d<n
       ·have hts:=HTO.out d hdn
        rw[HT.out] at hts
        have HO:=Lib.hid (K7.out wr (HE2.out.trans HE3.out) _ (HF2.out.ev HE3.out) d hdn)
        obtain⟨L,hL⟩:∃ L,(orbitL (phiL s) d).length=L:=⟨_,rfl⟩
        rw[hL] at hts
        have HLL:Hid ((toI (orbitL (phiL s) d)).length=L):=Lib.hid (by rw[toI_length,hL])
        have HTS:=Lib.hid hts
        clear hts hL
        go_wp2_with fail
        refine HO.out.mono ?_
        rintro e w4 ⟨vo,rfl,he4,ho4⟩
        obtain⟨ao,co,rfl,_⟩:=ho4.free.open
        rw[HLL.out]
        have HE4:=Lib.hid (HE3.out.trans he4)
        clear he4 ho4
        by_cases hL3:L=3
        ·have g5:((L:Int) != 3)=false:=by rw[bne_eq_false_iff_eq];omega
         have HT1:Hid (triTo s (d+1)=true):=Lib.hid (by rw[HTS.out,decide_eq_true hL3];rfl)
         clear hL3
         go_wp2_with fail
         go_roundg (n-(d+1))
         case measure=>omega
         case rel=>exact⟨d+1,by omega,by omega,by go_num,HT1.out,HE4.out⟩
        ·have g5:((L:Int) != 3)=true:=by rw[bne_iff_ne];omega
         have HBf:Hid (triB s lone=false):=Lib.hid (by
          rw[HB2.out]
          cases h':triTo s n with
          | false=>rfl
          | true=>
           have:=triTo_le (show d+1≤n by omega) h'
           rw[HTS.out,decide_eq_false hL3] at this
           cases this)
         clear hL3
         go_wp2_with fail
         go_ret
         exact⟨ret_bool HBf.out.symm,HE0.out.trans (HE2.out.trans HE4.out)⟩
       ·obtain rfl:d=n:=by omega
        go_wp2_with fail
        go_ret
        exact⟨ret_bool (by rw[HB2.out,HT.out]),HE0.out.trans (HE2.out.trans HE3.out)⟩
    ·have g4:((l:Int)+(d2:Int) != 0)=true:=by rw[bne_iff_ne];omega
     have HBf:Hid (triB s lone=false):=Lib.hid (by rw[HB.out,decide_eq_false h4];simp)
     clear h1 h2 h3 h4
     have hwr:=HW.out
     obtain⟨x0,x1,x2⟩:=HCL.out _ HEd.out
     go_enter Tryz.func23,Tryz.ntmps23
     go_wp2_with fail
     rw[←hw0]
     clear hw0
     go_region_with (first|(go_at_call 24;refine (K1.out _ HEd.out).mono ?_;rintro e w' ⟨rfl,he⟩;have HEd:=Lib.hid (HEd.out.trans he);clear he;obtain⟨x0,x1,x2⟩:=HCL.out _ HEd.out)|(go_at_call 55;refine (K2.out _ HEd.out).mono ?_;rintro e w' ⟨a',c',rfl,he⟩;have HEd:=Lib.hid (HEd.out.trans he);clear he;obtain⟨x0,x1,x2⟩:=HCL.out _ HEd.out)|(go_at_call 56;refine (K3.out _ HEd.out).mono ?_;rintro e w' ⟨rfl,he⟩;have HEd:=Lib.hid (HEd.out.trans he);clear he;obtain⟨x0,x1,x2⟩:=HCL.out _ HEd.out)|(go_at_call 57;refine (K4.out _ HEd.out).mono ?_;rintro e w' ⟨rfl,he⟩;have HEd:=Lib.hid (HEd.out.trans he);clear he;obtain⟨x0,x1,x2⟩:=HCL.out _ HEd.out)|(go_at_call 58;refine (K5.out _ HEd.out).mono ?_;rintro e w' ⟨rfl,he⟩;have HEd:=Lib.hid (HEd.out.trans he);clear he;obtain⟨x0,x1,x2⟩:=HCL.out _ HEd.out))
     all_goals go_wp2_with fail
     all_goals go_ret
     all_goals exact⟨ret_bool HBf.out.symm,HE0.out.trans HEd.out⟩
   ·have g3:(G != 0)=true:=by rw[bne_iff_ne];exact h3
    have HBf:Hid (triB s lone=false):=Lib.hid (by rw[HB.out];simp[h3])
    clear h1 h2 h3
    obtain⟨x0,x1,x2⟩:=HCL.out _ HEd.out
    go_enter Tryz.func23,Tryz.ntmps23
    go_wp2_with fail
    rw[←hw0]
    clear hw0
    go_region_with (first|(go_at_call 24;refine (K1.out _ HEd.out).mono ?_;rintro e w' ⟨rfl,he⟩;have HEd:=Lib.hid (HEd.out.trans he);clear he;obtain⟨x0,x1,x2⟩:=HCL.out _ HEd.out)|(go_at_call 55;refine (K2.out _ HEd.out).mono ?_;rintro e w' ⟨a',c',rfl,he⟩;have HEd:=Lib.hid (HEd.out.trans he);clear he;obtain⟨x0,x1,x2⟩:=HCL.out _ HEd.out)|(go_at_call 56;refine (K3.out _ HEd.out).mono ?_;rintro e w' ⟨rfl,he⟩;have HEd:=Lib.hid (HEd.out.trans he);clear he;obtain⟨x0,x1,x2⟩:=HCL.out _ HEd.out))
    all_goals go_wp2_with fail
    all_goals go_ret
    all_goals exact⟨ret_bool HBf.out.symm,HE0.out.trans HEd.out⟩
  ·have g2:((C:Int) != 1)=true:=by rw[bne_iff_ne];omega
   have HBf:Hid (triB s lone=false):=Lib.hid (by rw[HB.out,decide_eq_false h2];simp)
   clear h1 h2
   obtain⟨x0,x1,x2⟩:=HCL.out _ HEd.out
   go_enter Tryz.func23,Tryz.ntmps23
   go_wp2_with fail
   rw[←hw0]
   clear hw0
   go_region_with (first|(go_at_call 24;refine (K1.out _ HEd.out).mono ?_;rintro e w' ⟨rfl,he⟩;have HEd:=Lib.hid (HEd.out.trans he);clear he;obtain⟨x0,x1,x2⟩:=HCL.out _ HEd.out)|(go_at_call 55;refine (K2.out _ HEd.out).mono ?_;rintro e w' ⟨a',c',rfl,he⟩;have HEd:=Lib.hid (HEd.out.trans he);clear he;obtain⟨x0,x1,x2⟩:=HCL.out _ HEd.out))
   all_goals go_wp2_with fail
   all_goals go_ret
   all_goals exact⟨ret_bool HBf.out.symm,HE0.out.trans HEd.out⟩
end
section
open Go.RowKit
set_option linter.unusedVariables false
end
section
open Go.RowKit
set_option linter.unusedVariables false
theorem vcnt_whole {t:List Nat} (ht:IsPerm t) {N:List Int} (hN:∀ x,x<t.length→0≤nth N x∧nth N x<((1:Nat):Int)):vcnt t N ((0:Nat):Int) t.length=(sizesL t).length:=by
 have h:=sum_vcnt ht (C:=1) hN (Nat.le_refl _)
 rw[←sizesGo_all,sizesGo_length ht _ (Nat.le_refl _),←h]
 show _=0+vcnt t N ((0:Nat):Int) t.length
 omega
theorem euler_plane {s:List Nat} (hs:IsPerm s) (he:s.length % 2=0) (h1:partsN s=1) (hg:genusL s=0):(sizesL s).length+(sizesL (phiL s)).length=s.length / 2+2:=by
 have hg0:genOf s (partsL s) 0=0:=by
  unfold genusL at hg
  rw[h1] at hg
  show _=(0:Int)
  have:genusTo s 1=0+genOf s (partsL s) 0:=rfl
  omega
 have h:=(genOf_euler hs he (k:=0) (by omega)).2
 have hN:∀ x,x<s.length→0≤nth (partsL s) x∧nth (partsL s) x<((1:Nat):Int):=fun x hx=>by have:=partsL_lt hs he hx;rwa [h1] at this
 have hp:=phiL_perm hs he
 rw[hg0,vcnt_whole hs hN] at h
 have h2:=vcnt_whole hp (N:=partsL s) (fun x hx=>hN x (by rw[phiL_length] at hx;exact hx))
 rw[phiL_length] at h2
 have h3:=sum_ecnt (C:=1) hN (Nat.le_refl _)
 have h3:0+ecnt (partsL s) ((0:Nat):Int) s.length=s.length / 2:=h3
 rw[h2] at h
 omega
end
section
set_option linter.unusedVariables false
def sparse (N:List Int) (E:Nat):Bool:=(List.range E).all fun e=>nth N (2*e) != nth N (2*e+1) && (List.range e).all fun f=>
 !((nth N (2*f) == nth N (2*e) && nth N (2*f+1) == nth N (2*e+1)) || (nth N (2*f) == nth N (2*e+1) && nth N (2*f+1) == nth N (2*e)))
theorem sparse_simp {s:List Nat} (h:sparse (namesL s) (s.length / 2)=true):simpB s=true:=by
 unfold sparse at h
 rw[List.all_eq_true] at h
 have h1:∀ e,e<s.length / 2→loopB s e=false∧dblB s e=false:=fun e he=>by
  have:=h e (by simp[he])
  rw[Bool.and_eq_true,List.all_eq_true] at this
  have hl:loopB s e=false:=by
   unfold loopB
   simpa using this.1
  refine⟨hl,?_⟩
  unfold dblB
  rw[hl]
  simp only[Bool.not_false,Bool.true_and]
  rw[List.any_eq_false]
  intro f hf
  have:=this.2 f hf
  intro hp
  unfold pairB at hp
  rw[hp] at this
  cases this
 have h2:∀ e,e≤s.length / 2→loopsTo s e=0∧dblsTo s e=0:=fun e=>by
  induction e with
  | zero=>intro _;exact⟨rfl,rfl⟩
  | succ e ih=>
   intro he
   obtain⟨a,b⟩:=ih (by omega)
   obtain⟨c,d⟩:=h1 e (by omega)
   unfold loopsTo dblsTo
   rw[a,b,c,d]
   exact⟨rfl,rfl⟩
 unfold simpB
 have:=h2 _ (Nat.le_refl _)
 exact decide_eq_true this
end
end Go.Proofs.YtgphnkkdmlohlaaGreatDoor
