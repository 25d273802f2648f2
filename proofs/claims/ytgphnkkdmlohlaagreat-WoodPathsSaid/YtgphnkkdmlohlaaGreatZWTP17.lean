/- parquetryref08.Names. -/
import Derived.Test.YtgphnkkdmlohlaaGreatZWTP15
import Derived.Test.YtgphnkkdmlohlaaGreatZWTP06
import Derived.Deep.DeepCutAuto
import Derived.Deep.QuietTactic
import Derived.BigQuiet
import Derived.Test.YtgphnkkdmlohlaaGreatZWTP16
namespace Go.Proofs.YtgphnkkdmlohlaaGreat
section
open Go.RowKit
set_option linter.unusedVariables false
end
section
open Go.RowKit
set_option linter.unusedVariables false
end
section
open Go.RowKit
set_option linter.unusedVariables false
def sumG (f:Nat→PartR):Nat→Int
 | 0=>0
 | k+1=>sumG f k+(f k).g
theorem sumG_succ (f:Nat→PartR) (k:Nat):sumG f (k+1)=sumG f k+(f k).g:=rfl
theorem sumG_bound {f:Nat→PartR} (h:∀ k,0≤(f k).g∧(f k).g≤65538):∀ k,0≤sumG f k∧sumG f k≤65538*(k:Int)
 | 0=>⟨Int.le_refl _,by simp[sumG]⟩
 | k+1=>by have:=sumG_bound h k;have:=h k;rw[sumG_succ];omega
theorem sumG_parts (s:List Nat):∀ k,k≤partsN s→sumG (partsF s) k=genusTo s k
 | 0,_=>rfl
 | k+1,hk=>by
  rw[sumG_succ,sumG_parts s k (by omega)]
  unfold partsF
  rw[if_pos (by omega)]
  rfl
theorem sumG_all (s:List Nat):∀ lone,sumG (partsF s) (partsN s+lone)=genusL s
 | 0=>sumG_parts s _ (Nat.le_refl _)
 | l+1=>by
  rw[←Nat.add_assoc,sumG_succ,sumG_all s l]
  unfold partsF
  rw[if_neg (by omega)]
  show _+0=_
  omega
set_option maxRecDepth 100000 in
set_option maxHeartbeats 2000000 in
theorem egenus_any (R:Reg) (w:World) (hI:Inv R w) (p:Value) (s:List Nat) (root:Int) (lone:Nat) (hp:MapAt R p s root lone):
  Calls Tryz.prog 133 #[p] w (RetV R w (.int .i64 (genusL s))):=by
 obtain⟨hs,hok⟩:=hp.ok hI
 have he2:s.length % 2=0:=hok.1
 have hn:s.length≤131073:=hok.2.1
 have hlone:lone≤65536:=by have:=hok.2.2;omega
 have hpn:=partsN_le hs he2
 have HP:=Lib.hid (eparts_any R w hI p s root lone hp)
 have hG:=partsF_g hs he2 hn
 have HS:Hid (∀ i,i≤partsN s+lone→0≤sumG (partsF s) i∧sumG (partsF s) i≤65538*300000):=Lib.hid (fun i hi=>by have:=sumG_bound hG i;omega)
 have HG:=Lib.hid hG
 have HA:=Lib.hid (sumG_all s lone)
 have hcl:partsN s+lone≤300000:=by omega
 clear hI hp hs hok hG
 go_enter Tryz.func133,Tryz.ntmps133
 go_wp2_with fail
 refine HP.out.mono ?_
 rintro e w1 ⟨v,R1,rfl,he,a,c,rfl,ho⟩
 have HO:=Lib.hid ho
 have HE:=Lib.hid he
 clear ho he
 go_wp2_with fail
 go_loopg [3,9] (partsN s+lone) (fun gg v3 v9 wr=>∃ i:Nat,i≤partsN s+lone∧partsN s+lone-i≤gg∧v3=.int .i64 (sumG (partsF s) i)∧v9=.int .i64 (i:Int)∧Ev R1 w1 R1 wr)
 case atStart=>exact⟨0,by omega,by omega,rfl,rfl,Ev.refl HE.out.inv⟩
 case round=>
  obtain⟨i,hi,hg,rfl,rfl,hev⟩:=hrel
  have HEv:=Lib.hid hev
  clear hev
  by_cases hil:i<partsN s+lone
  ·obtain⟨b0,b1⟩:=HS.out i (by omega)
   obtain⟨b2,b3⟩:=HG.out i
   have ho:=HO.out.ev HEv.out
   obtain⟨gb,rfl,_,_,c0,_⟩:=ho.headAt (i:=i*5+0) (by rw[flatF_length];omega)
   obtain⟨_,e1,_,_,c1,_⟩:=ho.headAt (i:=i*5+1) (by rw[flatF_length];omega)
   cases e1
   obtain⟨_,e1,_,_,c2,_⟩:=ho.headAt (i:=i*5+2) (by rw[flatF_length];omega)
   cases e1
   obtain⟨_,e1,_,_,c3,_⟩:=ho.headAt (i:=i*5+3) (by rw[flatF_length];omega)
   cases e1
   obtain⟨_,e1,_,_,c4,_⟩:=ho.headAt (i:=i*5+4) (by rw[flatF_length];omega)
   cases e1
   rw[flatF_get (by omega) hil] at c0 c1 c2 c3 c4
   have HSs:=Lib.hid (sumG_succ (partsF s) i)
   obtain⟨S,hS⟩:∃ S,sumG (partsF s) i=S:=⟨_,rfl⟩
   obtain⟨p,hp⟩:∃ p,partsF s i=p:=⟨_,rfl⟩
   rw[hS] at b0 b1 HSs ⊢
   rw[hp] at b2 b3 HSs c0 c1 c2 c3 c4
   obtain⟨pr,pv,pe,pb,pg⟩:=p
   have HSs:Hid (sumG (partsF s) (i+1)=S+pg):=HSs
   have b2:0≤pg:=b2
   have b3:pg≤65538:=b3
   have k0:wr.cell? ⟨gb,i*5,none⟩=some (.int .i64 pr):=c0
   have k1:wr.cell? ⟨gb,i*5+1,none⟩=some (.int .i64 pv):=c1
   have k2:wr.cell? ⟨gb,i*5+2,none⟩=some (.int .i64 pe):=c2
   have k3:wr.cell? ⟨gb,i*5+3,none⟩=some (.int .i64 pb):=c3
   have k4:wr.cell? ⟨gb,i*5+4,none⟩=some (.int .i64 pg):=c4
   clear c0 c1 c2 c3 c4 hS hp ho
   go_wp2_with fail
   go_roundg (partsN s+lone-(i+1))
   case measure=>omega
   case rel=>exact⟨i+1,by omega,by omega,by rw[HSs.out],by go_num,HEv.out.alloc _⟩
  ·obtain rfl:i=partsN s+lone:=by omega
   go_wp2_with fail
   go_ret
   rw[HA.out]
   exact⟨rfl,R1,HE.out.trans HEv.out⟩
set_option maxRecDepth 100000 in
set_option maxHeartbeats 2000000 in
theorem planar_any (R:Reg) (w:World) (hI:Inv R w) (p:Value) (s:List Nat) (root:Int) (lone:Nat) (hp:MapAt R p s root lone):
  Calls Tryz.prog 70 #[p] w (RetV R w (.bool (genusL s == 0))):=by
 have HP:=Lib.hid (egenus_any R w hI p s root lone hp)
 obtain⟨b,rfl,hb⟩:=hp
 clear hI hb
 go_enter Tryz.func70,Tryz.ntmps70
 go_wp2_with fail
 refine HP.out.mono ?_
 rintro e w1 ⟨rfl,R1,he⟩
 have HE:=Lib.hid he
 clear he
 go_wp2_with fail
 go_ret
 exact⟨rfl,R1,HE.out⟩
set_option maxRecDepth 100000 in
set_option maxHeartbeats 2000000 in
theorem connected_any (R:Reg) (w:World) (hI:Inv R w) (p:Value) (s:List Nat) (root:Int) (lone:Nat) (hp:MapAt R p s root lone):
  Calls Tryz.prog 69 #[p] w (RetV R w (.bool (decide (partsN s+lone=1)))):=by
 have HP:=Lib.hid (eparts_any R w hI p s root lone hp)
 clear hI hp
 go_enter Tryz.func69,Tryz.ntmps69
 go_wp2_with fail
 refine HP.out.mono ?_
 rintro e w1 ⟨v,R1,rfl,he,a,c,rfl,ho⟩
 have HE:=Lib.hid he
 clear he ho
 go_wp2_with fail
 go_ret
 refine⟨ret_bool ?_,R1,HE.out⟩
 by_cases h:partsN s+lone=1
 ·rw[decide_eq_true h,beq_iff_eq];omega
 ·rw[decide_eq_false h,beq_eq_false_iff_ne];omega
theorem loopsTo_succ (s:List Nat) (e:Nat):loopsTo s (e+1)=loopsTo s e+if loopB s e=true then 1 else 0:=rfl
theorem dblsTo_succ (s:List Nat) (e:Nat):dblsTo s (e+1)=dblsTo s e+if dblB s e=true then 1 else 0:=rfl
set_option maxRecDepth 100000 in
set_option maxHeartbeats 2000000 in
theorem eloops_any (R:Reg) (w:World) (hI:Inv R w) (p:Value) (s:List Nat) (root:Int) (lone:Nat) (hp:MapAt R p s root lone):
  Calls Tryz.prog 134 #[p] w (RetV R w (.int .i64 (loopsL s:Nat))):=by
 obtain⟨hs,hok⟩:=hp.ok hI
 have hn:s.length≤131073:=hok.2.1
 have HEd:=Lib.hid (edges_any R w hI p s root lone hp)
 have HVt:=Lib.hid (fun R' w' (he:Ev R w R' w') (x:Nat) (hx:x<s.length)=>by
  have:=vertex_any R' w' he.inv p s root lone (he.map hp) x
  rwa [nameI_in hx] at this)
 obtain⟨E,hE⟩:∃ E,s.length / 2=E:=⟨_,rfl⟩
 have hEn:2*E≤s.length:=by omega
 have HA:Hid (loopsL s=loopsTo s E):=Lib.hid (by unfold loopsL;rw[hE])
 rw[hE] at HEd
 have HI:=Lib.hid hI
 have HLb:=Lib.hid (fun e=>loopsTo_le s e)
 clear hI hp hs hok hE
 go_enter Tryz.func134,Tryz.ntmps134
 go_wp2_with fail
 refine HEd.out.mono ?_
 rintro e w' ⟨rfl,rfl⟩
 go_wp2_with fail
 go_loopg [3,7] E (fun gg v3 v7 wr=>∃ (e:Nat) (Re:Reg),e≤E∧E-e≤gg∧v3=.int .i64 ((loopsTo s e:Nat):Int)∧v7=.int .i64 (e:Int)∧Ev R w Re wr)
 case atStart=>exact⟨0,R,by omega,by omega,rfl,rfl,Ev.refl HI.out⟩
 case round=>
  obtain⟨e,Re,he,hg,rfl,rfl,hev⟩:=hrel
  have HE:=Lib.hid hev
  have hb:=HLb.out e
  have HSu:=Lib.hid (loopsTo_succ s e)
  obtain⟨c,hc⟩:∃ c,loopsTo s e=c:=⟨_,rfl⟩
  rw[hc] at hb HSu ⊢
  have HC:=Lib.hid hc
  clear hev hc
  by_cases heE:e<E
  ·have hc1:=HVt.out Re wr HE.out (2*e) (by omega)
   rw[show ((2*e:Nat):Int)=2*(e:Int) by omega] at hc1
   have hc2:=fun R' w' (he:Ev R w R' w')=>HVt.out R' w' he (2*e+1) (by omega)
   rw[show ((2*e+1:Nat):Int)=2*(e:Int)+1 by omega] at hc2
   have hlb:loopB s e=(nth (namesL s) (2*e) == nth (namesL s) (2*e+1)):=rfl
   obtain⟨x,hx⟩:∃ x,nth (namesL s) (2*e)=x:=⟨_,rfl⟩
   obtain⟨y,hy⟩:∃ x,nth (namesL s) (2*e+1)=x:=⟨_,rfl⟩
   rw[hx] at hc1 hlb
   rw[hy] at hc2 hlb
   have HC1:=Lib.hid hc1
   have HC2:=Lib.hid hc2
   have HLB:=Lib.hid hlb
   clear hx hy hc1 hc2 hlb
   go_wp2_with fail
   refine HC1.out.mono ?_
   rintro _ w1 ⟨rfl,R1,he1⟩
   have HE1:=Lib.hid (HE.out.trans he1)
   clear he1
   go_wp2_with fail
   refine (HC2.out R1 w1 HE1.out).mono ?_
   rintro _ w2 ⟨rfl,R2,he2⟩
   have HE2:=Lib.hid (HE1.out.trans he2)
   clear he2
   by_cases hxy:x=y
   ·have heq:(x == y)=true:=by rw[beq_iff_eq];exact hxy
    have HS2:Hid (loopsTo s (e+1)=c+1):=Lib.hid (by rw[HSu.out,HLB.out,if_pos heq])
    clear hxy
    go_wp2_with fail
    go_roundg (E-(e+1))
    case measure=>omega
    case rel=>exact⟨e+1,R2,by omega,by omega,by rw[HS2.out];go_num,by go_num,HE2.out⟩
   ·have heq:(x == y)=false:=by rw[beq_eq_false_iff_ne];exact hxy
    have HS2:Hid (loopsTo s (e+1)=c):=Lib.hid (by rw[HSu.out,HLB.out,heq];rfl)
    clear hxy
    go_wp2_with fail
    go_roundg (E-(e+1))
    case measure=>omega
    case rel=>exact⟨e+1,R2,by omega,by omega,by rw[HS2.out],by go_num,HE2.out⟩
  ·obtain rfl:e=E:=by omega
   go_wp2_with fail
   go_ret
   exact⟨ret_int (by rw[HA.out,HC.out]),Re,HE.out⟩
end
section
open Go.RowKit
set_option linter.unusedVariables false
end
end Go.Proofs.YtgphnkkdmlohlaaGreat
