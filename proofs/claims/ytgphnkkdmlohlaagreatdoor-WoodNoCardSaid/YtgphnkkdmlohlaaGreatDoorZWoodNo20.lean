/- euler.Doubles, Simple. -/
import Derived.Test.YtgphnkkdmlohlaaGreatDoorZWoodNo17
import Derived.Test.YtgphnkkdmlohlaaGreatDoorZWoodNo19
import Derived.Test.YtgphnkkdmlohlaaGreatDoorZWoodNo03
import Derived.Test.YtgphnkkdmlohlaaGreatDoorZWoodNo13
import Derived.BigRegion
import Derived.StillTailTactics
import Derived.Test.YtgphnkkdmlohlaaGreatDoorZWoodNo14
import Derived.Deep.RegionHeld3
namespace Go.Proofs.YtgphnkkdmlohlaaGreatDoor
section
open Go.RowKit Go.Maps
set_option linter.unusedVariables false
def loN (s:List Nat) (e:Nat):Int:=if nth (namesL s) (2*e)≤nth (namesL s) (2*e+1) then nth (namesL s) (2*e) else nth (namesL s) (2*e+1)
def hiN (s:List Nat) (e:Nat):Int:=if nth (namesL s) (2*e)≤nth (namesL s) (2*e+1) then nth (namesL s) (2*e+1) else nth (namesL s) (2*e)
def pcnt (s:List Nat):Nat→Int→Int→Int
 | 0=>fun _ _=>0
 | e+1=>if loopB s e=true then pcnt s e else pairUp (pcnt s e) (loN s e) (hiN s e) (pcnt s e (loN s e) (hiN s e)+1)
theorem pcnt_bound (s:List Nat) (a b:Int):∀ e,0≤pcnt s e a b∧pcnt s e a b≤e
 | 0=>⟨Int.le_refl _,Int.le_refl _⟩
 | e+1=>by
  have ih:=pcnt_bound s a b e
  unfold pcnt
  split
  ·omega
  ·unfold pairUp
   split
   ·rename_i h
    rw[←h.1,←h.2]
    omega
   ·omega
theorem pcnt_pos (s:List Nat) (a b:Int):∀ e,0<pcnt s e a b↔∃ f,f<e∧¬ loopB s f=true∧loN s f=a∧hiN s f=b
 | 0=>by simp[pcnt]
 | e+1=>by
  have ih:=pcnt_pos s a b e
  have hb:=pcnt_bound s a b e
  unfold pcnt
  by_cases hl:loopB s e=true
  ·rw[if_pos hl,ih]
   constructor
   ·rintro⟨f,h1,h2⟩;exact⟨f,by omega,h2⟩
   ·rintro⟨f,h1,h2⟩
    refine⟨f,?_,h2⟩
    by_cases e':f=e
    ·subst e';exact absurd hl h2.1
    ·omega
  ·rw[if_neg hl]
   unfold pairUp
   by_cases h:a=loN s e∧b=hiN s e
   ·rw[if_pos h]
    refine⟨fun _=>⟨e,by omega,hl,h.1.symm,h.2.symm⟩,fun _=>?_⟩
    rw[←h.1,←h.2];omega
   ·rw[if_neg h,ih]
    constructor
    ·rintro⟨f,h1,h2⟩;exact⟨f,by omega,h2⟩
    ·rintro⟨f,h1,h2⟩
     refine⟨f,?_,h2⟩
     by_cases e':f=e
     ·subst e';exact absurd ⟨h2.2.1.symm,h2.2.2.symm⟩ h
     ·omega
theorem dblB_iff {s:List Nat} {e:Nat} (hl:¬ loopB s e=true):dblB s e=true↔0<pcnt s e (loN s e) (hiN s e):=by
 rw[pcnt_pos]
 unfold dblB
 simp only[Bool.and_eq_true,List.any_eq_true,List.mem_range,Bool.not_eq_true']
 have hne:nth (namesL s) (2*e)≠nth (namesL s) (2*e+1):=fun h=>hl (by unfold loopB;rw[beq_iff_eq];exact h)
 have key:∀ f,(pairB s e f=true↔¬ loopB s f=true∧loN s f=loN s e∧hiN s f=hiN s e):=fun f=>by
  unfold pairB loopB loN hiN
  simp only[Bool.or_eq_true,Bool.and_eq_true,beq_iff_eq]
  split <;> split <;> omega
 constructor
 ·rintro⟨_,f,hf,hp⟩;exact⟨f,hf,(key f).1 hp⟩
 ·rintro⟨f,hf,hp⟩;exact⟨by simpa using hl,f,hf,(key f).2 hp⟩
set_option maxRecDepth 100000 in
set_option maxHeartbeats 2000000 in
theorem edoubles_any (R:Reg) (w:World) (hI:Inv R w) (p:Value) (s:List Nat) (root:Int) (lone:Nat) (hp:MapAt R p s root lone):
  Calls Tryz.prog 123 #[p] w (RetV R w (.int .i64 (dblsL s:Nat))):=by
 obtain⟨hs,hok⟩:=hp.ok hI
 have hn:s.length≤131073:=hok.2.1
 have hmm:=@run_makeMap Tryz.prog
 have HEd:=Lib.hid (fun R' w' (he:Ev R w R' w')=>edges_any R' w' he.inv p s root lone (he.map hp))
 have HVt:=Lib.hid (fun R' w' (he:Ev R w R' w') (x:Nat) (hx:x<s.length)=>by
  have:=vertex_any R' w' he.inv p s root lone (he.map hp) x
  rwa [nameI_in hx] at this)
 have HNb:=Lib.hid (fun x (hx:x<s.length)=>(names_lt hs hx))
 have HSz:=Lib.hid (sizesL_le hs)
 obtain⟨E,hE⟩:∃ E,s.length / 2=E:=⟨_,rfl⟩
 have hEn:2*E≤s.length:=by omega
 have HA:Hid (dblsL s=dblsTo s E):=Lib.hid (by unfold dblsL;rw[hE])
 rw[hE] at HEd
 have HI:=Lib.hid hI
 have HLb:=Lib.hid (fun e=>dblsTo_le s e)
 have hm1:=PairMap.made hI
 have HM:=Lib.hid hm1
 have HE0:=Lib.hid ((Ev.refl hI).alloc (.map #[] 0))
 clear hI hp hs hok hE hm1
 go_enter Tryz.func123,Tryz.ntmps123
 go_wp2_with fail
 refine (HEd.out _ _ HE0.out).mono ?_
 rintro e w' ⟨rfl,rfl⟩
 go_wp2_with fail
 obtain⟨w1,hw1⟩:∃ w1,w1=w.alloc (.map #[] 0):=⟨_,rfl⟩
 obtain⟨b,hb⟩:∃ b,w.heap.size=b:=⟨_,rfl⟩
 have hbw:b<w1.heap.size:=by rw[hw1,←hb];simp
 have HBW:Hid (w.heap.size≤b):=Lib.hid (by omega)
 rw[←hw1] at HM HE0 ⊢
 rw[hb] at HM ⊢
 clear hw1 hb hmm
 go_loopg [4,12] E (fun gg v4 v12 wr=>∃ (e:Nat) (Re:Reg),e≤E∧E-e≤gg∧v4=.int .i64 ((dblsTo s e:Nat):Int)∧v12=.int .i64 (e:Int)∧Ev R w Re wr∧PairMap Re wr b e (pcnt s e))
 case atStart=>exact⟨0,R,by omega,by omega,rfl,rfl,HE0.out,HM.out⟩
 case round=>
  obtain⟨e,Re,he,hg,rfl,rfl,hev,hm⟩:=hrel
  have HE:=Lib.hid hev
  have HMe:=Lib.hid hm
  have hb:=HLb.out e
  have HSu:=Lib.hid (dblsTo_succ s e)
  obtain⟨c,hc⟩:∃ c,dblsTo s e=c:=⟨_,rfl⟩
  rw[hc] at hb HSu ⊢
  have HC:=Lib.hid hc
  clear hev hc hm
  by_cases heE:e<E
  ·have hc1:=HVt.out Re wr HE.out (2*e) (by omega)
   rw[show ((2*e:Nat):Int)=2*(e:Int) by omega] at hc1
   have hc2:=fun R' w' (he:Ev R w R' w')=>HVt.out R' w' he (2*e+1) (by omega)
   rw[show ((2*e+1:Nat):Int)=2*(e:Int)+1 by omega] at hc2
   have hx1:=HNb.out (2*e) (by omega)
   have hy1:=HNb.out (2*e+1) (by omega)
   have hsz:=HSz.out
   have hlb:loopB s e=(nth (namesL s) (2*e) == nth (namesL s) (2*e+1)):=rfl
   have hlo:loN s e=if nth (namesL s) (2*e)≤nth (namesL s) (2*e+1) then nth (namesL s) (2*e) else nth (namesL s) (2*e+1):=rfl
   have hhi:hiN s e=if nth (namesL s) (2*e)≤nth (namesL s) (2*e+1) then nth (namesL s) (2*e+1) else nth (namesL s) (2*e):=rfl
   obtain⟨x,hx⟩:∃ x,nth (namesL s) (2*e)=x:=⟨_,rfl⟩
   obtain⟨y,hy⟩:∃ x,nth (namesL s) (2*e+1)=x:=⟨_,rfl⟩
   rw[hx] at hc1 hlb hx1 hlo hhi
   rw[hy] at hc2 hlb hy1 hlo hhi
   have hx2:x≤131073:=by omega
   have hy2:y≤131073:=by omega
   have hx3:=hx1.1
   have hy3:=hy1.1
   have HC1:=Lib.hid hc1
   have HC2:=Lib.hid hc2
   have HLB:=Lib.hid hlb
   have HLO:=Lib.hid hlo
   have HHI:=Lib.hid hhi
   clear hx hy hc1 hc2 hlb hx1 hy1 hsz hlo hhi
   go_wp2_with fail
   refine HC1.out.mono ?_
   rintro _ w2 ⟨rfl,R1,he1⟩
   have HE1:=Lib.hid (HE.out.trans he1)
   have HM1:=Lib.hid (HMe.out.ev he1)
   clear he1
   go_wp2_with fail
   refine (HC2.out R1 w2 HE1.out).mono ?_
   rintro _ w3 ⟨rfl,R2,he2⟩
   have HE2:=Lib.hid (HE1.out.trans he2)
   have HM2:=Lib.hid (HM1.out.ev he2)
   clear he2
   by_cases hxy:x=y
   ·have heq:(x == y)=true:=by rw[beq_iff_eq];exact hxy
    have HS2:Hid (dblsTo s (e+1)=c):=Lib.hid (by rw[HSu.out,if_neg (by unfold dblB;rw[HLB.out,heq];simp)];rfl)
    have HP2:Hid (pcnt s (e+1)=pcnt s e):=Lib.hid (by show (if loopB s e=true then pcnt s e else _)=_;rw[HLB.out,heq];rfl)
    clear hxy
    go_wp2_with fail
    go_roundg (E-(e+1))
    case measure=>omega
    case rel=>
     obtain⟨q1,D,q2,q3⟩:=HM2.out
     exact⟨e+1,R2,by omega,by omega,by rw[HS2.out],by go_num,HE2.out,q1,D,q2.mono (by omega),by rw[HP2.out];exact q3⟩
   ·have heq:(x == y)=false:=by rw[beq_eq_false_iff_ne];exact hxy
    by_cases hle:x≤y
    ·have elo:loN s e=x:=by rw[HLO.out];rw[if_pos hle]
     have ehi:hiN s e=y:=by rw[HHI.out];rw[if_pos hle]
     have hnl:¬ loopB s e=true:=by rw[HLB.out,heq];simp
     have hdb:=dblB_iff hnl
     have hcb:=pcnt_bound s x y e
     have hpu:pcnt s (e+1)=pairUp (pcnt s e) x y (pcnt s e x y+1):=by
      show (if loopB s e=true then pcnt s e else _)=_
      rw[if_neg hnl,elo,ehi]
     rw[elo,ehi] at hdb
     obtain⟨c0,hc0⟩:∃ c0,pcnt s e x y=c0:=⟨_,rfl⟩
     have he4:=HE2.out.alloc (.cells #[.int .i64 x,.int .i64 y] 147)
     have hm4:=HM2.out.ev ((Ev.refl HE2.out.inv).alloc (.cells #[.int .i64 x,.int .i64 y] 147))
     have wlo:(Lit.int .i64 x).wf=true:=WalkArith.wf_i64 (by omega)
     have whi:(Lit.int .i64 y).wf=true:=WalkArith.wf_i64 (by omega)
     have wc:(Lit.int .i64 (pcnt s e x y+1)).wf=true:=WalkArith.wf_i64 (by omega)
     obtain⟨_,_,_,_,hl1,_⟩:=hm4.bump (by unfold maxLen;omega) wlo whi wc
     obtain⟨v0,stp,w5,w6,f1,f2,f3,f4,f5,f6⟩:=(hm4.ev ((Ev.refl he4.inv).drew)).bump (by unfold maxLen;omega) wlo whi wc
     rw[←hpu] at f5
     rw[hc0] at hcb hl1 f1 f3 f4 hdb
     have HP5:=Lib.hid f5
     have HE6:=Lib.hid (he4.drew.grown f6 (fun k e=>by cases e;exact⟨HBW.out,HM2.out.1⟩))
     have HDB:=Lib.hid hdb
     unfold pairV at hl1 f1 f2 f3
     unfold goInt at f2 f4
     obtain⟨hcb0,hcb1⟩:=hcb
     clear elo ehi hnl hdb hpu hc0 he4 hm4 wlo whi wc f5 f6
     by_cases hpos:0<c0
     ·have HS2:Hid (dblsTo s (e+1)=c+1):=Lib.hid (by rw[HSu.out,if_pos (HDB.out.2 hpos)])
      go_wp2_with fail
      go_region
      all_goals go_wp2_with fail
      all_goals go_roundg (E-(e+1))
      all_goals first|omega|exact⟨e+1,R2,by omega,by omega,by rw[HS2.out];go_num,by go_num,HE6.out,HP5.out⟩
     ·have HS2:Hid (dblsTo s (e+1)=c):=Lib.hid (by rw[HSu.out,if_neg (fun h=>hpos (HDB.out.1 h))];rfl)
      go_wp2_with fail
      go_region
      all_goals go_wp2_with fail
      all_goals go_roundg (E-(e+1))
      all_goals first|omega|exact⟨e+1,R2,by omega,by omega,by rw[HS2.out],by go_num,HE6.out,HP5.out⟩
    ·have elo:loN s e=y:=by rw[HLO.out];rw[if_neg hle]
     have ehi:hiN s e=x:=by rw[HHI.out];rw[if_neg hle]
     have hnl:¬ loopB s e=true:=by rw[HLB.out,heq];simp
     have hdb:=dblB_iff hnl
     have hcb:=pcnt_bound s y x e
     have hpu:pcnt s (e+1)=pairUp (pcnt s e) y x (pcnt s e y x+1):=by
      show (if loopB s e=true then pcnt s e else _)=_
      rw[if_neg hnl,elo,ehi]
     rw[elo,ehi] at hdb
     obtain⟨c0,hc0⟩:∃ c0,pcnt s e y x=c0:=⟨_,rfl⟩
     have he4:=HE2.out.alloc (.cells #[.int .i64 y,.int .i64 x] 147)
     have hm4:=HM2.out.ev ((Ev.refl HE2.out.inv).alloc (.cells #[.int .i64 y,.int .i64 x] 147))
     have wlo:(Lit.int .i64 y).wf=true:=WalkArith.wf_i64 (by omega)
     have whi:(Lit.int .i64 x).wf=true:=WalkArith.wf_i64 (by omega)
     have wc:(Lit.int .i64 (pcnt s e y x+1)).wf=true:=WalkArith.wf_i64 (by omega)
     obtain⟨_,_,_,_,hl1,_⟩:=hm4.bump (by unfold maxLen;omega) wlo whi wc
     obtain⟨v0,stp,w5,w6,f1,f2,f3,f4,f5,f6⟩:=(hm4.ev ((Ev.refl he4.inv).drew)).bump (by unfold maxLen;omega) wlo whi wc
     rw[←hpu] at f5
     rw[hc0] at hcb hl1 f1 f3 f4 hdb
     have HP5:=Lib.hid f5
     have HE6:=Lib.hid (he4.drew.grown f6 (fun k e=>by cases e;exact⟨HBW.out,HM2.out.1⟩))
     have HDB:=Lib.hid hdb
     unfold pairV at hl1 f1 f2 f3
     unfold goInt at f2 f4
     obtain⟨hcb0,hcb1⟩:=hcb
     clear elo ehi hnl hdb hpu hc0 he4 hm4 wlo whi wc f5 f6
     by_cases hpos:0<c0
     ·have HS2:Hid (dblsTo s (e+1)=c+1):=Lib.hid (by rw[HSu.out,if_pos (HDB.out.2 hpos)])
      go_wp2_with fail
      go_region
      all_goals go_wp2_with fail
      all_goals go_roundg (E-(e+1))
      all_goals first|omega|exact⟨e+1,R2,by omega,by omega,by rw[HS2.out];go_num,by go_num,HE6.out,HP5.out⟩
     ·have HS2:Hid (dblsTo s (e+1)=c):=Lib.hid (by rw[HSu.out,if_neg (fun h=>hpos (HDB.out.1 h))];rfl)
      go_wp2_with fail
      go_region
      all_goals go_wp2_with fail
      all_goals go_roundg (E-(e+1))
      all_goals first|omega|exact⟨e+1,R2,by omega,by omega,by rw[HS2.out],by go_num,HE6.out,HP5.out⟩
  ·obtain rfl:e=E:=by omega
   go_wp2_with fail
   go_ret
   exact⟨ret_int (by rw[HA.out,HC.out]),Re,HE.out⟩
end
section
open Go.RowKit
set_option linter.unusedVariables false
def simpB (s:List Nat):Bool:=decide (loopsL s=0∧dblsL s=0)
set_option maxRecDepth 100000 in
set_option maxHeartbeats 2000000 in
theorem simple_any (R:Reg) (w:World) (hI:Inv R w) (p:Value) (s:List Nat) (root:Int) (lone:Nat) (hp:MapAt R p s root lone):
  Calls Tryz.prog 107 #[p] w (RetV R w (.bool (simpB s))):=by
 have HP:=Lib.hid (eloops_any R w hI p s root lone hp)
 have HD:=Lib.hid (fun R' w' (he:Ev R w R' w')=>edoubles_any R' w' he.inv p s root lone (he.map hp))
 obtain⟨b,rfl,hb⟩:=hp
 clear hI hb
 obtain⟨l,hl⟩:∃ l,loopsL s=l:=⟨_,rfl⟩
 obtain⟨d,hd⟩:∃ l,dblsL s=l:=⟨_,rfl⟩
 have HS:Hid (simpB s=decide (l=0∧d=0)):=Lib.hid (by unfold simpB;rw[hl,hd])
 rw[hl] at HP
 rw[hd] at HD
 clear hl hd
 by_cases h1:l=0
 ·have g1:((l:Int) == 0)=true:=by rw[beq_iff_eq];omega
  by_cases h2:d=0
  ·have g2:((d:Int) == 0)=true:=by rw[beq_iff_eq];omega
   have HB:Hid (simpB s=true):=Lib.hid (by rw[HS.out];simp[h1,h2])
   clear h1 h2 HS
   go_enter Tryz.func107,Tryz.ntmps107
   go_wp2_with fail
   refine HP.out.mono ?_
   rintro e w1 ⟨rfl,R1,he⟩
   have HE:=Lib.hid he
   clear he
   go_wp2_with fail
   refine (HD.out R1 w1 HE.out).mono ?_
   rintro e w2 ⟨rfl,R2,he⟩
   have HE2:=Lib.hid (HE.out.trans he)
   clear he
   go_wp2_with fail
   go_ret
   exact⟨ret_bool HB.out.symm,R2,HE2.out⟩
  ·have g2:((d:Int) == 0)=false:=by rw[beq_eq_false_iff_ne];omega
   have HB:Hid (simpB s=false):=Lib.hid (by rw[HS.out];simp[h2])
   clear h1 h2 HS
   go_enter Tryz.func107,Tryz.ntmps107
   go_wp2_with fail
   refine HP.out.mono ?_
   rintro e w1 ⟨rfl,R1,he⟩
   have HE:=Lib.hid he
   clear he
   go_wp2_with fail
   refine (HD.out R1 w1 HE.out).mono ?_
   rintro e w2 ⟨rfl,R2,he⟩
   have HE2:=Lib.hid (HE.out.trans he)
   clear he
   go_wp2_with fail
   go_ret
   exact⟨ret_bool HB.out.symm,R2,HE2.out⟩
 ·have g1:((l:Int) == 0)=false:=by rw[beq_eq_false_iff_ne];omega
  have HB:Hid (simpB s=false):=Lib.hid (by rw[HS.out];simp[h1])
  clear h1 HS
  go_enter Tryz.func107,Tryz.ntmps107
  go_wp2_with fail
  refine HP.out.mono ?_
  rintro e w1 ⟨rfl,R1,he⟩
  have HE:=Lib.hid he
  clear he
  go_wp2_with fail
  go_ret
  exact⟨ret_bool HB.out.symm,R1,HE.out⟩
def triTo (s:List Nat):Nat→Bool
 | 0=>true
 | d+1=>triTo s d && (at' (phiL s) (at' (phiL s) (at' (phiL s) d)) == d && !(at' (phiL s) d == d))
def triB (s:List Nat) (lone:Nat):Bool:=decide (3≤(sizesL s).length+lone) && (decide (partsN s+lone=1) && ((genusL s == 0) && (simpB s && triTo s s.length)))
theorem triTo_le {s:List Nat} {d:Nat}:∀ {n:Nat},d≤n→triTo s n=true→triTo s d=true
 | 0,hd,h=>by rw[show d=0 by omega];rfl
 | n+1,hd,h=>by
  by_cases e:d=n+1
  ·rw[e];exact h
  ·unfold triTo at h
   exact triTo_le (by omega) (Bool.and_eq_true_iff.1 h).1
set_option maxRecDepth 100000 in
set_option maxHeartbeats 4000000 in
theorem etri_any (R:Reg) (w:World) (hI:Inv R w) (p:Value) (s:List Nat) (root:Int) (lone:Nat) (hp:MapAt R p s root lone):
  Calls Tryz.prog 89 #[p] w (RetV R w (.bool (triB s lone))):=by
 obtain⟨hs,hok⟩:=hp.ok hI
 have he2:s.length % 2=0:=hok.1
 have hnot:=not_run
 have H1:=Lib.hid (vertices_any R w hI p s root lone hp)
 have H2:=Lib.hid (fun R' w' (he:Ev R w R' w')=>connected_any R' w' he.inv p s root lone (he.map hp))
 have H3:=Lib.hid (fun R' w' (he:Ev R w R' w')=>planar_any R' w' he.inv p s root lone (he.map hp))
 have H4:=Lib.hid (fun R' w' (he:Ev R w R' w')=>simple_any R' w' he.inv p s root lone (he.map hp))
 have H5:=Lib.hid (fun R' w' (he:Ev R w R' w')=>darts_any R' w' he.inv p s root lone (he.map hp))
 obtain⟨n,hn⟩:∃ n,s.length=n:=⟨_,rfl⟩
 have HPh:=Lib.hid (fun R' w' (he:Ev R w R' w') (x:Nat) (hx:x<n)=>by
  have:=phi_any R' w' he.inv p s root lone (he.map hp) x
  rwa [atI_in (by rw[phiL_length];omega)] at this)
 have HPL:Hid (∀ x,x<n→at' (phiL s) x<n):=Lib.hid (fun x hx=>by
  have:=(phiL_perm hs he2).lt (i:=x) (by rw[phiL_length];omega)
  rw[phiL_length] at this
  omega)
 rw[hn] at H5
 have hn2:n≤131073:=by have:=hok.2.1;omega
 obtain⟨V,hV⟩:∃ V:Nat,(sizesL s).length+lone=V:=⟨_,rfl⟩
 rw[show (((sizesL s).length:Int)+(lone:Int))=(V:Int) by omega] at H1
 obtain⟨bc,hbc⟩:∃ b,decide (partsN s+lone=1)=b:=⟨_,rfl⟩
 obtain⟨bp,hbp⟩:∃ b,(genusL s == 0)=b:=⟨_,rfl⟩
 obtain⟨bs,hbs⟩:∃ b,simpB s=b:=⟨_,rfl⟩
 rw[hbc] at H2
 rw[hbp] at H3
 rw[hbs] at H4
 have HB:Hid (triB s lone=(decide (3≤V) && (bc && (bp && (bs && triTo s n))))):=Lib.hid (by unfold triB;rw[hV,hbc,hbp,hbs,hn])
 clear hI hp hs hok he2 hV hbc hbp hbs hn
 by_cases h3:3≤V
 ·have HB:Hid (triB s lone=(bc && (bp && (bs && triTo s n)))):=Lib.hid (by rw[HB.out,decide_eq_true h3];rfl)
  cases bc with
  | true=>cases bp with
   | true=>cases bs with
    | true=>
     go_enter Tryz.func89,Tryz.ntmps89
     go_wp2_with fail
     refine H1.out.mono ?_
     rintro e w1 ⟨rfl,R1,he⟩
     have HE1:=Lib.hid he
     clear he
     go_wp2_with fail
     refine (H2.out R1 w1 HE1.out).mono ?_
     rintro e w2 ⟨rfl,R2,he⟩
     have HE2:=Lib.hid (HE1.out.trans he)
     clear he
     go_wp2_with fail
     refine (H3.out R2 w2 HE2.out).mono ?_
     rintro e w3 ⟨rfl,R3,he⟩
     have HE3:=Lib.hid (HE2.out.trans he)
     clear he
     go_wp2_with fail
     refine (H4.out R3 w3 HE3.out).mono ?_
     rintro e w4 ⟨rfl,R4,he⟩
     have HE4:=Lib.hid (HE3.out.trans he)
     clear he
     go_wp2_with fail
     refine (H5.out R4 w4 HE4.out).mono ?_
     rintro e w' ⟨rfl,rfl⟩
     go_wp2_with fail
     go_loopg [25] n (fun g v25 wr=>∃ d:Nat,d≤n∧n-d≤g∧v25=.int .i64 (d:Int)∧triTo s d=true∧wr=w4)
     case atStart=>exact⟨0,by omega,by omega,rfl,rfl,rfl⟩
     case round=>
      obtain⟨d,hd,hg,rfl,ht,rfl⟩:=hrel
      have HT:=Lib.hid ht
      clear ht
      by_cases hdn:d<n
      ·have hl1:=HPL.out d hdn
       have c1:=HPh.out R4 wr HE4.out d hdn
       obtain⟨x,hx⟩:∃ x,at' (phiL s) d=x:=⟨_,rfl⟩
       rw[hx] at hl1 c1
       have hl2:=HPL.out x hl1
       have c2:=HPh.out R4 wr HE4.out x hl1
       obtain⟨y,hy⟩:∃ y,at' (phiL s) x=y:=⟨_,rfl⟩
       rw[hy] at hl2 c2
       have hl3:=HPL.out y hl2
       have c3:=HPh.out R4 wr HE4.out y hl2
       obtain⟨z,hz⟩:∃ z,at' (phiL s) y=z:=⟨_,rfl⟩
       rw[hz] at c3
       have HTS:Hid (triTo s (d+1)=(z == d && !(x == d))):=Lib.hid (by
        unfold triTo
        rw[HT.out,hx,hy,hz]
        rfl)
       have HF:Hid (triTo s (d+1)=false→triTo s n=false):=Lib.hid (fun h=>by
        cases h':triTo s n with
        | false=>rfl
        | true=>rw[triTo_le (by omega) h'] at h;cases h)
       have C1:=Lib.hid c1
       have C2:=Lib.hid c2
       have C3:=Lib.hid c3
       clear c1 c2 c3 hx hy hz hl1 hl2 hl3
       by_cases hz:z=d
       ·have g1:((z:Int) != (d:Int))=false:=by rw[bne_eq_false_iff_eq];omega
        by_cases hx:x=d
        ·have g2:((x:Int) == (d:Int))=true:=by rw[beq_iff_eq];omega
         have HBf:Hid (triB s lone=false):=Lib.hid (by rw[HB.out,HF.out (by rw[HTS.out];simp[hx])];rfl)
         clear hz hx HTS HF
         go_wp2_with fail
         refine C1.out.mono ?_
         rintro e w' ⟨rfl,rfl⟩
         go_wp2_with fail
         refine C2.out.mono ?_
         rintro e w' ⟨rfl,rfl⟩
         go_wp2_with fail
         refine C3.out.mono ?_
         rintro e w' ⟨rfl,rfl⟩
         go_wp2_with fail
         refine C1.out.mono ?_
         rintro e w' ⟨rfl,rfl⟩
         go_wp2_with fail
         go_ret
         exact⟨ret_bool HBf.out.symm,R4,HE4.out⟩
        ·have g2:((x:Int) == (d:Int))=false:=by rw[beq_eq_false_iff_ne];omega
         have HT1:Hid (triTo s (d+1)=true):=Lib.hid (by rw[HTS.out];simp[hz,hx])
         clear hz hx HTS HF
         go_wp2_with fail
         refine C1.out.mono ?_
         rintro e w' ⟨rfl,rfl⟩
         go_wp2_with fail
         refine C2.out.mono ?_
         rintro e w' ⟨rfl,rfl⟩
         go_wp2_with fail
         refine C3.out.mono ?_
         rintro e w' ⟨rfl,rfl⟩
         go_wp2_with fail
         refine C1.out.mono ?_
         rintro e w' ⟨rfl,rfl⟩
         go_wp2_with fail
         go_roundg (n-(d+1))
         case measure=>omega
         case rel=>exact⟨d+1,by omega,by omega,by go_num,HT1.out,rfl⟩
       ·have g1:((z:Int) != (d:Int))=true:=by rw[bne_iff_ne];omega
        have HBf:Hid (triB s lone=false):=Lib.hid (by rw[HB.out,HF.out (by rw[HTS.out];simp[hz])];rfl)
        clear hz HTS HF
        go_wp2_with fail
        refine C1.out.mono ?_
        rintro e w' ⟨rfl,rfl⟩
        go_wp2_with fail
        refine C2.out.mono ?_
        rintro e w' ⟨rfl,rfl⟩
        go_wp2_with fail
        refine C3.out.mono ?_
        rintro e w' ⟨rfl,rfl⟩
        go_wp2_with fail
        go_ret
        exact⟨ret_bool HBf.out.symm,R4,HE4.out⟩
      ·obtain rfl:d=n:=by omega
       have HBt:Hid (triB s lone=true):=Lib.hid (by rw[HB.out,HT.out];rfl)
       go_wp2_with fail
       go_ret
       exact⟨ret_bool HBt.out.symm,R4,HE4.out⟩
    | false=>
     have HBf:Hid (triB s lone=false):=Lib.hid (by rw[HB.out];simp)
     go_enter Tryz.func89,Tryz.ntmps89
     go_wp2_with fail
     refine H1.out.mono ?_
     rintro e w1 ⟨rfl,R1,he⟩
     have HE1:=Lib.hid he
     clear he
     go_wp2_with fail
     refine (H2.out R1 w1 HE1.out).mono ?_
     rintro e w2 ⟨rfl,R2,he⟩
     have HE2:=Lib.hid (HE1.out.trans he)
     clear he
     go_wp2_with fail
     refine (H3.out R2 w2 HE2.out).mono ?_
     rintro e w3 ⟨rfl,R3,he⟩
     have HE3:=Lib.hid (HE2.out.trans he)
     clear he
     go_wp2_with fail
     refine (H4.out R3 w3 HE3.out).mono ?_
     rintro e w4 ⟨rfl,R4,he⟩
     have HE4:=Lib.hid (HE3.out.trans he)
     clear he
     go_wp2_with fail
     go_ret
     exact⟨ret_bool HBf.out.symm,R4,HE4.out⟩
   | false=>
    have HBf:Hid (triB s lone=false):=Lib.hid (by rw[HB.out];simp)
    go_enter Tryz.func89,Tryz.ntmps89
    go_wp2_with fail
    refine H1.out.mono ?_
    rintro e w1 ⟨rfl,R1,he⟩
    have HE1:=Lib.hid he
    clear he
    go_wp2_with fail
    refine (H2.out R1 w1 HE1.out).mono ?_
    rintro e w2 ⟨rfl,R2,he⟩
    have HE2:=Lib.hid (HE1.out.trans he)
    clear he
    go_wp2_with fail
    refine (H3.out R2 w2 HE2.out).mono ?_
    rintro e w3 ⟨rfl,R3,he⟩
    have HE3:=Lib.hid (HE2.out.trans he)
    clear he
    go_wp2_with fail
    go_ret
    exact⟨ret_bool HBf.out.symm,R3,HE3.out⟩
  | false=>
   have HBf:Hid (triB s lone=false):=Lib.hid (by rw[HB.out];simp)
   go_enter Tryz.func89,Tryz.ntmps89
   go_wp2_with fail
   refine H1.out.mono ?_
   rintro e w1 ⟨rfl,R1,he⟩
   have HE1:=Lib.hid he
   clear he
   go_wp2_with fail
   refine (H2.out R1 w1 HE1.out).mono ?_
   rintro e w2 ⟨rfl,R2,he⟩
   have HE2:=Lib.hid (HE1.out.trans he)
   clear he
   go_wp2_with fail
   go_ret
   exact⟨ret_bool HBf.out.symm,R2,HE2.out⟩
 ·have HB:Hid (triB s lone=false):=Lib.hid (by rw[HB.out,decide_eq_false h3];rfl)
  have HBf:Hid (triB s lone=false):=Lib.hid (by rw[HB.out])
  go_enter Tryz.func89,Tryz.ntmps89
  go_wp2_with fail
  refine H1.out.mono ?_
  rintro e w1 ⟨rfl,R1,he⟩
  have HE1:=Lib.hid he
  clear he
  go_wp2_with fail
  go_ret
  exact⟨ret_bool HBf.out.symm,R1,HE1.out⟩
end
section
set_option linter.unusedVariables false
theorem invL_length (s:List Nat):(invL s).length=s.length:=by unfold invL;rw[invGo_length]
section
variable {s : List Nat} (hs : IsPerm s) (he : s.length % 2 = 0)
include hs
include he
end
end
section
open Go.RowKit
set_option linter.unusedVariables false
end
section
set_option linter.unusedVariables false
section
variable {t : List Nat} (ht : IsPerm t) {e : Nat}
include ht
end
end
section
open Go.RowKit
set_option linter.unusedVariables false
structure LessAt (R:Reg) (w:World) (x p:Value) (e:Nat) (L:List Nat):Prop where
 ex:∃ b a cap,x=.pointer (some ⟨b,0,none⟩)∧R b=none∧w.cell? ⟨b,0,none⟩=some p∧w.cell? ⟨b,1,none⟩=some (.int .i64 (e:Int))∧w.cell? ⟨b,2,none⟩=some (.slice a L.length cap)∧FreeI R w (.slice a L.length cap) (toI L)
section
variable {R : Reg} {w : World} {x p : Value} {e : Nat} {L : List Nat} (h : LessAt R w x p e L)
include h
end
end
section
open Go.RowKit
set_option linter.unusedVariables false
end
section
open Go.RowKit
set_option linter.unusedVariables false
end
section
open Go.RowKit
set_option linter.unusedVariables false
end
section
open Go.RowKit
set_option linter.unusedVariables false
end
section
open Go.RowKit
set_option linter.unusedVariables false
end
section
open Go.RowKit
set_option linter.unusedVariables false
theorem box_cells {w:World} {b:Nat} {x y z:Value} {T:TypeId} (hb:w.heap[b]?=some (.cells #[x,y,z] T (0,0))):w.cell? ⟨b,0,none⟩=some x∧w.cell? ⟨b,1,none⟩=some y∧w.cell? ⟨b,2,none⟩=some z∧∀ o,w.frozen? ⟨b,o,none⟩=false:=
 ⟨cells_at hb 0,cells_at hb 1,cells_at hb 2,fun o=>by simp[World.frozen?,hb]⟩
end
section
set_option linter.unusedVariables false
section
variable {s : List Nat} (hs : IsPerm s) (he : s.length % 2 = 0)
include hs he
end
end
section
set_option linter.unusedVariables false
end
section
set_option linter.unusedVariables false
section
variable {s : List Nat} (hs : IsPerm s)
include hs
end
end
section
set_option linter.unusedVariables false
theorem it_itf (s:List Nat):∀ (j x:Nat),it s j x=itf (at' s) j x
 | 0,_=>rfl
 | j+1,x=>it_itf s j (at' s x)
theorem sizesL_tally {s:List Nat} (hs:IsPerm s):(sizesL s).length=tally (Least (cyc s.length (at' s))) s.length:=by
 have h1:=sizesGo_length hs s.length (Nat.le_refl _)
 have h2:=(namesL_ord hs).cnt_eq (Nat.le_refl s.length)
 have e:sizesGo s s.length=sizesL s:=by unfold sizesGo sizesL;rw[List.take_of_length_le (by rw[namesL_length];exact Nat.le_refl _)]
 rw[←e,h1]
 exact h2
section
variable {p n : Nat} {r q : Nat → Nat → Prop} {P : Nat → Prop} (hr : Per p r) (hq : Per n q) (f : Nat → Nat)
 (hf:∀ x,x<p→f x<n∧P (f x)) (hb:∀ y,y<n→P y→∃ x,x<p∧q (f x) y) (hP:∀ x y,P x→q x y→P y) (hrq:∀ x y,x<p→y<p→(r x y↔q (f x) (f y)))
include hr hq hf hb hP hrq
end
section
variable {s : List Nat} (hs : IsPerm s) {e : Nat} (hn : 2 * e + 2 ≤ s.length)
include hs hn
end
end
end Go.Proofs.YtgphnkkdmlohlaaGreatDoor
