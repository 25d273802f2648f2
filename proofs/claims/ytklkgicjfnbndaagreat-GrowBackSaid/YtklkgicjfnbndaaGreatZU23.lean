/- A turn with an edge less: the edge's darts are passed by. -/
import Derived.Test.YtklkgicjfnbndaaGreatZU22
import Derived.Test.YtklkgicjfnbndaaGreatZU19
import Derived.BigRegion
import Derived.StillTailTactics
namespace Go.Proofs.YtklkgicjfnbndaaGreat
section
set_option linter.unusedVariables false
def nmL (e d:Nat):Nat:=if 2*e<d then d-2 else d
def unL (e j:Nat):Nat:=if j<2*e then j else j+2
def passF (t:List Nat) (e:Nat):Nat→Nat→Nat
 | 0,d=>d
 | f+1,d=>if d / 2=e then passF t e f (at' t d) else d
def passN (t:List Nat) (e d:Nat):Nat:=passF t e 2 d
def doneL (t:List Nat) (e:Nat):List Nat:=(List.range (t.length-2)).map fun j=>nmL e (passN t e (at' t (unL e j)))
def rootGo (s:List Nat) (e:Nat):Nat→Nat→Nat
 | 0,_=>0
 | f+1,d=>if d / 2=e then rootGo s e f (at' (invL s) d) else nmL e d
def rootL (s:List Nat) (e root:Nat):Int:=if s.length=2 then -1 else ((rootGo s e s.length root:Nat):Int)
theorem doneL_length (t:List Nat) (e:Nat):(doneL t e).length=t.length-2:=by simp[doneL]
theorem doneL_at {t:List Nat} {e j:Nat} (hj:j<t.length-2):at' (doneL t e) j=nmL e (passN t e (at' t (unL e j))):=by simp[doneL,at',hj]
theorem unL_own {e j:Nat}:¬ unL e j / 2=e:=by unfold unL;split <;> omega
theorem unL_lt {e j n:Nat} (hn:2*e+2≤n) (hj:j<n-2):unL e j<n:=by unfold unL;split <;> omega
theorem unL_inj {e i j:Nat} (h:unL e i=unL e j):i=j:=by unfold unL at h;split at h <;> split at h <;> omega
theorem nm_un (e j:Nat):nmL e (unL e j)=j:=by unfold nmL unL;split <;> split <;> omega
theorem un_nm {e d:Nat} (h:¬ d / 2=e):unL e (nmL e d)=d:=by unfold nmL unL;split <;> split <;> omega
theorem nmL_lt {e d n:Nat} (hn:2*e+2≤n) (h:¬ d / 2=e) (hd:d<n):nmL e d<n-2:=by unfold nmL;split <;> omega
theorem nmL_inj {e c d:Nat} (hc:¬ c / 2=e) (hd:¬ d / 2=e) (h:nmL e c=nmL e d):c=d:=by rw[←un_nm hc,←un_nm hd,h]
theorem pass_cases (t:List Nat) (e x:Nat):(¬ x / 2=e∧passN t e x=x)∨(x / 2=e∧¬ at' t x / 2=e∧passN t e x=at' t x)∨(x / 2=e∧at' t x / 2=e∧passN t e x=at' t (at' t x)):=by
 unfold passN
 by_cases h:x / 2=e
 ·by_cases h2:at' t x / 2=e
  ·exact Or.inr (Or.inr ⟨h,h2,by simp[passF,h,h2]⟩)
  ·exact Or.inr (Or.inl ⟨h,h2,by simp[passF,h,h2]⟩)
 ·exact Or.inl ⟨h,by simp[passF,h]⟩
section
variable {t : List Nat} (ht : IsPerm t) {e : Nat}
include ht
theorem pass_ok {d:Nat} (hd:d<t.length) (ho:¬ d / 2=e):¬ passN t e (at' t d) / 2=e∧passN t e (at' t d)<t.length:=by
 have h1:=ht.lt hd
 have h2:=ht.lt h1
 have h3:=ht.lt h2
 rcases pass_cases t e (at' t d) with ⟨a,b⟩|⟨a,a2,b⟩|⟨a,a2,b⟩
 ·rw[b];exact⟨a,h1⟩
 ·rw[b];exact⟨a2,h2⟩
 ·rw[b]
  refine⟨fun a3=>?_,h3⟩
  by_cases e1:at' t d=at' t (at' t d)
  ·have:=ht.inj hd h1 e1
   rw[this] at ho
   exact ho a
  ·by_cases e2:at' t (at' t d)=at' t (at' t (at' t d))
   ·exact e1 (ht.inj h1 h2 e2)
   ·have e3:at' t d=at' t (at' t (at' t d)):=by omega
    have:=ht.inj hd h2 e3
    rw[this] at ho
    exact ho a2
theorem pass_inj {c d:Nat} (hc:c<t.length) (hd:d<t.length) (oc:¬ c / 2=e) (od:¬ d / 2=e) (h:passN t e (at' t c)=passN t e (at' t d)):c=d:=by
 have c1:=ht.lt hc
 have d1:=ht.lt hd
 have c2:=ht.lt c1
 have d2:=ht.lt d1
 rcases pass_cases t e (at' t c) with ⟨a,b⟩|⟨a,a2,b⟩|⟨a,a2,b⟩ <;> rcases pass_cases t e (at' t d) with ⟨p,q⟩|⟨p,p2,q⟩|⟨p,p2,q⟩ <;> rw[b,q] at h
 ·exact ht.inj hc hd h
 ·exact absurd p (by rw[←ht.inj hc d1 h];exact oc)
 ·exact absurd p2 (by rw[←ht.inj hc d2 h];exact oc)
 ·exact absurd a (by rw[ht.inj c1 hd h];exact od)
 ·exact ht.inj hc hd (ht.inj c1 d1 h)
 ·exact absurd p (by rw[←ht.inj hc d1 (ht.inj c1 d2 h)];exact oc)
 ·exact absurd a2 (by rw[ht.inj c2 hd h];exact od)
 ·exact absurd a (by rw[ht.inj c1 hd (ht.inj c2 d1 h)];exact od)
 ·exact ht.inj hc hd (ht.inj c1 d1 (ht.inj c2 d2 h))
theorem doneL_perm (hn:2*e+2≤t.length):IsPerm (doneL t e):=by
 refine IsPerm.of_inj (fun i hi=>?_) (fun i j hi hj h=>?_)
 ·rw[doneL_length] at hi ⊢
  obtain⟨h1,h2⟩:=pass_ok ht (unL_lt hn hi) unL_own
  rw[doneL_at hi]
  exact nmL_lt hn h1 h2
 ·rw[doneL_length] at hi hj
  rw[doneL_at hi,doneL_at hj] at h
  have h1:=(pass_ok ht (unL_lt hn hi) unL_own).1
  have h2:=(pass_ok ht (unL_lt hn hj) unL_own).1
  exact unL_inj (pass_inj ht (unL_lt hn hi) (unL_lt hn hj) unL_own unL_own (nmL_inj h1 h2 h))
theorem rootGo_lt (hn:2*e+2≤t.length) (h4:4≤t.length):∀ (f:Nat) {d:Nat},d<t.length→rootGo t e f d<t.length-2
 | 0,d,_=>by show 0<_;omega
 | f+1,d,hd=>by
  unfold rootGo
  by_cases h:d / 2=e
  ·rw[if_pos h]
   exact rootGo_lt hn h4 f (at_invL ht hd).2
  ·rw[if_neg h]
   exact nmL_lt hn h hd
end
theorem MapOk.less {s t:List Nat} {root lone:Int} (h:MapOk s root lone) (hs:IsPerm s) (e:t.length=s.length) {k:Nat} (hk:2*k+2≤s.length) {l:Int} (hl:0≤l∧lone+l≤65536):MapOk (doneL t k) (rootL s k root.toNat) (lone+l):=by
 obtain⟨h1,h2,h3,h4,h5⟩:=h
 have hd:=doneL_length t k
 refine⟨by omega,by omega,by omega,hl.2,?_⟩
 unfold rootL
 by_cases h6:s.length=2
 ·rw[if_pos h6];left;omega
 ·rw[if_neg h6];right
  have hr:root.toNat<s.length:=by omega
  have:=rootGo_lt hs hk (by omega) s.length hr
  omega
end
section
open Go.RowKit
set_option linter.unusedVariables false
structure LessAt (R:Reg) (w:World) (x p:Value) (e:Nat) (L:List Nat):Prop where
 ex:∃ b a cap,x=.pointer (some ⟨b,0,none⟩)∧R b=none∧w.cell? ⟨b,0,none⟩=some p∧w.cell? ⟨b,1,none⟩=some (.int .i64 (e:Int))∧w.cell? ⟨b,2,none⟩=some (.slice a L.length cap)∧FreeI R w (.slice a L.length cap) (toI L)
theorem LessAt.ev {R R':Reg} {w w':World} {x p:Value} {e:Nat} {L:List Nat} (h:LessAt R w x p e L) (he:Ev R w R' w'):LessAt R' w' x p e L:=by
 obtain⟨b,a,cap,h1,hb,c0,c1,c2,hf⟩:=h.ex
 have hl:=lt_of_cell c0
 exact⟨b,a,cap,h1,he.free b hl hb,(he.cell hl hb).trans c0,(he.cell hl hb).trans c1,(he.cell hl hb).trans c2,hf.ev he⟩
section
variable {R : Reg} {w : World} {x p : Value} {e : Nat} {L : List Nat} (h : LessAt R w x p e L)
include h
theorem own_any (d:Nat) (hd:d≤4000000):Calls Tryz.prog 99 #[x,.int .i64 (d:Int)] w fun z w'=>z=.returned (.bool (decide (d / 2=e)))∧w=w':=by
 obtain⟨b,a,cap,rfl,hb,c0,c1,c2,hf⟩:=h.ex
 have hq:(((d:Int) / 2) == (e:Int))=decide (d / 2=e):=by
  by_cases h:d / 2=e
  ·rw[decide_eq_true h];simp;omega
  ·rw[decide_eq_false h];simp;omega
 have hw:wrap64 ((d:Int) / 2)=(d:Int) / 2:=by unfold wrap64;omega
 clear h hf
 go_enter Tryz.func99,Tryz.ntmps99
 go_wp2_with fail
 go_ret
 refine⟨?_,rfl⟩
 rw[←hq]
 first|rfl|(simp only[hw];rfl)
theorem nmL_any (hn:e≤1000000) (d:Nat) (hd:d≤4000000) (hdo:¬ d / 2=e):Calls Tryz.prog 100 #[x,.int .i64 (d:Int)] w fun z w'=>z=.returned (.int .i64 ((nmL e d:Nat):Int))∧w=w':=by
 obtain⟨b,a,cap,rfl,hb,c0,c1,c2,hf⟩:=h.ex
 clear h hf
 by_cases hk:2*e<d
 ·have hw:IntKind.i64.wrap (2*(e:Int))=2*(e:Int):=IntWalk.i64_in _ (by omega)
  have hw2:IntKind.i64.wrap ((d:Int)-2)=(d:Int)-2:=IntWalk.i64_in _ (by omega)
  have hb1:(2*(e:Int)<(d:Int)):=by omega
  have hv:((nmL e d:Nat):Int)=(d:Int)-2:=by unfold nmL;rw[if_pos hk];omega
  rw[hv]
  go_enter Tryz.func100,Tryz.ntmps100
  go_wp2_with fail
  go_ret
  exact⟨rfl,rfl⟩
 ·have hw:IntKind.i64.wrap (2*(e:Int))=2*(e:Int):=IntWalk.i64_in _ (by omega)
  have hb1:¬ (2*(e:Int)<(d:Int)):=by omega
  have hv:((nmL e d:Nat):Int)=(d:Int):=by unfold nmL;rw[if_neg hk]
  rw[hv]
  go_enter Tryz.func100,Tryz.ntmps100
  go_wp2_with fail
  go_ret
  exact⟨rfl,rfl⟩
set_option maxRecDepth 100000 in
set_option maxHeartbeats 1000000 in
theorem pass_any (hL:IsPerm L) (hn:L.length≤4000000) (d:Nat) (hd:d<L.length) (hr:¬ passN L e d / 2=e):Calls Tryz.prog 101 #[x,.int .i64 (d:Int)] w fun z w'=>z=.returned (.int .i64 ((passN L e d:Nat):Int))∧w=w':=by
 have HO:=Lib.hid (own_any h)
 obtain⟨b,a,cap,rfl,hb,c0,c1,c2,hf⟩:=h.ex
 obtain⟨r,hrr⟩:∃ r,passN L e d=r:=⟨_,rfl⟩
 rw[hrr] at hr ⊢
 have HF:=Lib.hid hf
 have HL:=Lib.hid hL
 clear h hf
 go_enter Tryz.func101,Tryz.ntmps101
 go_wp2_with fail
 go_loopg [1] 2 (fun g v1 wr=>∃ (f y:Nat),f≤g∧y<L.length∧passF L e f y=r∧v1=.int .i64 (y:Int)∧wr=w)
 case atStart=>exact⟨2,d,Nat.le_refl _,hd,hrr,rfl,rfl⟩
 case round=>
  clear hrr
  obtain⟨f,y,hfg,hy,hp,rfl,rfl⟩:=hrel
  have hlt:=HL.out.lt hy
  have hyb:y≤4000000:=by omega
  obtain⟨bS,oS,rfl,hc⟩:=HF.out.1.cell (i:=y) (by rw[toI_length];exact hy)
  rw[toI_nth] at hc
  by_cases ho:y / 2=e
  ·cases f with
   | zero=>
    have hp:y=r:=hp
    rw[hp] at ho
    exact absurd ho hr
   | succ f=>
    have hp:passF L e f (at' L y)=r:=by
     unfold passF at hp
     rwa [if_pos ho] at hp
    obtain⟨y2,hy2⟩:∃ k,at' L y=k:=⟨_,rfl⟩
    rw[hy2] at hp hc hlt
    have HP:=Lib.hid hp
    have hdt:decide (y / 2=e)=true:=decide_eq_true ho
    clear hp hy2
    go_wp2_with (go_at_call 99;refine (HO.out _ hyb).mono ?_;rintro z w' ⟨rfl,rfl⟩;rw[hdt])
    go_roundg f
    case measure=>omega
    case rel=>exact⟨f,y2,Nat.le_refl _,hlt,HP.out,rfl,rfl⟩
  ·have hp:y=r:=by
    cases f with
    | zero=>exact hp
    | succ f=>
     unfold passF at hp
     rwa [if_neg ho] at hp
   subst hp
   have hdt:decide (y / 2=e)=false:=decide_eq_false ho
   go_wp2_with (go_at_call 99;refine (HO.out _ hyb).mono ?_;rintro z w' ⟨rfl,rfl⟩;rw[hdt])
   go_ret
   exact⟨rfl,rfl⟩
end
end
section
open Go.RowKit
set_option linter.unusedVariables false
theorem LessAt.cells {R:Reg} {w:World} {x p:Value} {e:Nat} {L:List Nat} (h:LessAt R w x p e L):∃ b a cap,x=.pointer (some ⟨b,0,none⟩)∧∀ R' w',Ev R w R' w'→w'.cell? ⟨b,0,none⟩=some p∧w'.cell? ⟨b,2,none⟩=some (.slice a L.length cap)∧FreeI R' w' (.slice a L.length cap) (toI L):=by
 obtain⟨b,a,cap,h1,hb,c0,c1,c2,hf⟩:=h.ex
 have hl:=lt_of_cell c0
 exact⟨b,a,cap,h1,fun R' w' he=>⟨(he.cell hl hb).trans c0,(he.cell hl hb).trans c2,hf.ev he⟩⟩
set_option maxRecDepth 100000 in
set_option maxHeartbeats 1000000 in
theorem lroot_any (R:Reg) (w:World) (hI:Inv R w) (x p:Value) (s:List Nat) (root lone:Int) (hp:MapAt R p s root lone) (e:Nat) (L:List Nat) (h:LessAt R w x p e L) (h2:2≤s.length) (hen:2*e+2≤s.length):
  Calls Tryz.prog 102 #[x] w (RetV R w (.int .i64 (rootL s e root.toNat))):=by
 obtain⟨hS,hok⟩:=hp.ok hI
 have hn0:=hok.2.1
 have hrt:0≤root∧root<s.length:=by have:=hok.2.2.2.2;omega
 obtain⟨r0,rfl⟩:=Int.eq_ofNat_of_zero_le hrt.1
 have HDt:=Lib.hid (fun R' w' (he:Ev R w R' w')=>darts_any R' w' he.inv p s r0 lone (he.map hp))
 have HRt:=Lib.hid (fun R' w' (he:Ev R w R' w')=>root_any R' w' he.inv p s r0 lone (he.map hp))
 have HBk:=Lib.hid (fun R' w' (he:Ev R w R' w') (d:Nat) (hd:d<s.length)=>(by
  have:=mback_any R' w' he.inv p s r0 lone (he.map hp) (d:Int)
  rw[backI_in hd] at this
  exact this:Calls Tryz.prog 59 #[p,.int .i64 (d:Int)] w' _))
 have HOw:=Lib.hid (fun R' w' (he:Ev R w R' w') (d:Nat) (hd:d≤4000000)=>own_any (h.ev he) d hd)
 have HNm:=Lib.hid (fun R' w' (he:Ev R w R' w') (d:Nat) (hd:d≤4000000) hdo=>nmL_any (h.ev he) (by omega) d hd hdo)
 have HIv:=Lib.hid (fun d (hd:d<s.length)=>(at_invL hS hd).2)
 obtain⟨b,a,cap,rfl,hcl⟩:=h.cells
 have HC:=Lib.hid hcl
 have hr0:r0<s.length:=by omega
 rw[show ((r0:Nat):Int).toNat=r0 by simp]
 obtain⟨rr,hrr⟩:∃ rr,rootGo s e s.length r0=rr:=⟨_,rfl⟩
 have hres:rootL s e r0=if s.length=2 then -1 else ((rr:Nat):Int):=by unfold rootL;rw[hrr]
 have HRs:=Lib.hid hres
 obtain⟨n,hl⟩:∃ n,s.length=n:=⟨_,rfl⟩
 rw[hl] at HDt HBk HIv hr0 hn0 h2 hrr HRs
 have HRR:=Lib.hid hrr
 have HI:=Lib.hid hI
 obtain⟨c0,c2,_⟩:=hcl R w (Ev.refl hI)
 clear hI hS hok hrt h hcl hl hrr hres hp hen
 by_cases hn2:n=2
 ·subst hn2
  have HRv:Hid (rootL s e r0=-1):=Lib.hid (by rw[HRs.out,if_pos rfl])
  go_enter Tryz.func102,Tryz.ntmps102
  go_wp2_with fail
  refine (HDt.out _ _ (Ev.refl HI.out)).mono ?_
  rintro z w' ⟨rfl,rfl⟩
  go_wp2_with fail
  go_ret
  exact⟨by rw[HRv.out];rfl,R,Ev.refl HI.out⟩
 ·have HRv:Hid (rootL s e r0=((rr:Nat):Int)):=Lib.hid (by rw[HRs.out,if_neg hn2])
  have hb2:((n:Int) == 2)=false:=by rw[beq_eq_false_iff_ne];omega
  go_enter Tryz.func102,Tryz.ntmps102
  go_wp2_with fail
  refine (HDt.out _ _ (Ev.refl HI.out)).mono ?_
  rintro z w' ⟨rfl,rfl⟩
  go_wp2_with fail
  refine (HRt.out _ _ (Ev.refl HI.out)).mono ?_
  rintro z w' ⟨rfl,rfl⟩
  go_wp2_with fail
  refine (HDt.out _ _ (Ev.refl HI.out)).mono ?_
  rintro z w' ⟨rfl,rfl⟩
  go_wp2_with fail
  obtain⟨w0,hw0⟩:∃ w0,w0=w:=⟨_,rfl⟩
  subst hw0
  go_loopg [3,20] n (fun g v3 v20 wr=>∃ (i d:Nat) (Rr:Reg),i≤n∧n-i≤g∧d<n∧v3=.int .i64 (d:Int)∧v20=.int .i64 (i:Int)∧Ev R w0 Rr wr∧rootGo s e (n-i) d=rr)
  case atStart=>exact⟨0,r0,R,Nat.zero_le _,by omega,hr0,rfl,rfl,Ev.refl HI.out,HRR.out⟩
  case round=>
   clear c0 c2 hr0
   obtain⟨i,d,Rr,hin,hg,hd,rfl,rfl,he,hgo⟩:=hrel
   have HE:=Lib.hid he
   obtain⟨c0,c2,_⟩:=HC.out Rr wr he
   clear he c2
   by_cases hil:i<n
   ·obtain⟨m,hm⟩:∃ m,n-i=m+1:=⟨n-i-1,by omega⟩
    rw[hm] at hgo
    unfold rootGo at hgo
    have hdb:d≤4000000:=by omega
    by_cases ho:d / 2=e
    ·rw[if_pos ho] at hgo
     have hdt:decide (d / 2=e)=true:=decide_eq_true ho
     have HGo:=Lib.hid hgo
     clear hgo ho
     go_wp2_with fail
     refine (HOw.out _ _ HE.out d hdb).mono ?_
     rintro z w' ⟨rfl,rfl⟩
     rw[hdt]
     go_wp2_with fail
     refine (HBk.out _ _ HE.out d hd).mono ?_
     rintro z w5 ⟨rfl,R5,he5⟩
     have HE5:=Lib.hid (HE.out.trans he5)
     clear he5
     go_wp2_with fail
     go_roundg (n-(i+1))
     case measure=>omega
     case rel=>exact⟨i+1,_,R5,by omega,by omega,HIv.out d hd,rfl,by go_num,HE5.out,by rw[show n-(i+1)=m by omega];exact HGo.out⟩
    ·rw[if_neg ho] at hgo
     have hdt:decide (d / 2=e)=false:=decide_eq_false ho
     have HGo:=Lib.hid hgo
     have HO:=Lib.hid ho
     clear hgo ho
     go_wp2_with fail
     refine (HOw.out _ _ HE.out d hdb).mono ?_
     rintro z w' ⟨rfl,rfl⟩
     rw[hdt]
     go_wp2_with fail
     refine (HNm.out _ _ HE.out d hdb HO.out).mono ?_
     rintro z w' ⟨rfl,rfl⟩
     go_wp2_with fail
     go_ret
     exact⟨by rw[HRv.out,←HGo.out];rfl,Rr,HE.out⟩
   ·obtain rfl:i=n:=by omega
    have h0:0=rr:=by rw[Nat.sub_self] at hgo;exact hgo
    go_wp2_with fail
    go_ret
    exact⟨by rw[HRv.out,←h0];rfl,Rr,HE.out⟩
end
section
open Go.RowKit
set_option linter.unusedVariables false
def dnL (L:List Nat) (e i:Nat):List Int:=(List.range (L.length-2)).map fun j=>if unL e j<i then ((nmL e (passN L e (at' L (unL e j))):Nat):Int) else 0
theorem dnL_length (L:List Nat) (e i:Nat):(dnL L e i).length=L.length-2:=by simp[dnL]
theorem dnL_zero (L:List Nat) (e:Nat):dnL L e 0=List.replicate (L.length-2) 0:=by
 refine List.ext_getElem (by simp[dnL]) fun i h1 h2=>?_
 simp[dnL]
theorem dnL_own {L:List Nat} {e i:Nat} (h:i / 2=e):dnL L e (i+1)=dnL L e i:=by
 unfold dnL
 refine List.map_congr_left fun j _=>?_
 have:=unL_own (e:=e) (j:=j)
 by_cases h1:unL e j<i
 ·rw[if_pos h1,if_pos (by omega)]
 ·have:unL e j≠i:=fun e'=>by rw[e'] at this;exact this h
  rw[if_neg h1,if_neg (by omega)]
theorem dnL_set {L:List Nat} {e i:Nat} (h:¬ i / 2=e):(dnL L e i).set (nmL e i) ((nmL e (passN L e (at' L i)):Nat):Int)=dnL L e (i+1):=by
 refine List.ext_getElem (by simp[dnL]) fun j h1 h2=>?_
 rw[List.getElem_set]
 by_cases e1:nmL e i=j
 ·subst e1
  simp[dnL,un_nm h]
 ·rw[if_neg e1]
  simp only[dnL,List.getElem_map,List.getElem_range]
  by_cases h3:unL e j<i
  ·rw[if_pos h3,if_pos (by omega)]
  ·have:unL e j≠i:=fun e'=>e1 (by rw[←e',nm_un])
   rw[if_neg h3,if_neg (by omega)]
theorem dnL_all {L:List Nat} {e:Nat} (hn:2*e+2≤L.length):dnL L e L.length=toI (doneL L e):=by
 unfold dnL doneL toI
 rw[List.map_map]
 refine List.map_congr_left fun j hj=>?_
 rw[if_pos (unL_lt hn (List.mem_range.1 hj))]
 rfl
theorem Calls.drewS {f:FuncId} {args:Array Value} {w:World} {v:Value} (h:Calls Tryz.prog f args w fun e w'=>e=.returned v∧w=w'):Calls Tryz.prog f args w fun e w'=>e=.returned v∧w'=w:=h.mono fun _ _ h=>⟨h.1,h.2.symm⟩
set_option maxRecDepth 100000 in
set_option maxHeartbeats 4000000 in
theorem done_any (R:Reg) (w:World) (hI:Inv R w) (x p:Value) (s:List Nat) (root lone:Int) (hp:MapAt R p s root lone) (e:Nat) (L:List Nat) (h:LessAt R w x p e L) (hL:IsPerm L) (hLl:L.length=s.length) (hen:2*e+2≤s.length) (l:Int) (hl:0≤l∧lone+l≤65536):
  Calls Tryz.prog 67 #[x,.int .i64 l] w (NewYes R w (doneL L e) (rootL s e root.toNat) (lone+l)):=by
 obtain⟨hS,hok⟩:=hp.ok hI
 have hn0:=hok.2.1
 have hrt:0≤root∧root<s.length:=by have:=hok.2.2.2.2;omega
 have hlo:=hok.2.2.1
 have HDt:=Lib.hid (fun R' w' (he:Ev R w R' w')=>darts_any R' w' he.inv p s root lone (he.map hp))
 have HLn:=Lib.hid (fun R' w' (he:Ev R w R' w')=>lone_any R' w' he.inv p s root lone (he.map hp))
 have HRo:=Lib.hid (fun R' w' (he:Ev R w R' w')=>lroot_any R' w' he.inv x p s root lone (he.map hp) e L (h.ev he) (by omega) hen)
 have HOw:=Lib.hid (fun R' w' (he:Ev R w R' w') (d:Nat) (hd:d≤4000000)=>own_any (h.ev he) d hd)
 have HNm:=Lib.hid (fun R' w' (he:Ev R w R' w') (d:Nat) (hd:d≤4000000) hdo=>nmL_any (h.ev he) (by omega) d hd hdo)
 have HPs:=Lib.hid (fun R' w' (he:Ev R w R' w') (d:Nat) (hd:d<L.length) (hr:¬ passN L e d / 2=e)=>pass_any (h.ev he) hL (by omega) d hd hr)
 have HPo:=Lib.hid (fun d (hd:d<L.length) (ho:¬ d / 2=e)=>pass_ok hL hd ho)
 have HLt:=Lib.hid (fun d (hd:d<L.length)=>hL.lt hd)
 have HNl:=Lib.hid (fun d (hd:d<L.length) (ho:¬ d / 2=e)=>nmL_lt (by omega) ho hd)
 have HNy:=Lib.hid (fun R' w' (hI':Inv R' w') v (hv:FreeI R' w' v (toI (doneL L e)))=>new_yes R' w' hI' v (doneL L e) hv (rootL s e root.toNat) (lone+l) (doneL_perm hL (by omega)) (hok.less hS hLl hen hl))
 have HAll:=Lib.hid (dnL_all (L:=L) (e:=e) (by omega))
 obtain⟨b,a,cap,rfl,hcl⟩:=h.cells
 have HC:=Lib.hid hcl
 obtain⟨n,hln⟩:∃ n,L.length=n:=⟨_,rfl⟩
 rw[←hLl,hln] at HDt hn0 hen
 rw[hln] at HPs HPo HLt HNl HAll HC
 have HLN:=Lib.hid hln
 have hdl:=fun i=>dnL_length L e i
 rw[hln] at hdl
 have HDl:=Lib.hid hdl
 have HI:=Lib.hid hI
 obtain⟨c0,c2,_⟩:=HC.out R w (Ev.refl hI)
 obtain⟨i0,hi,hz0,hz1,hz2⟩:=info_parts int_info
 have hw2:IntKind.i64.wrap ((n:Int)-2)=((n-2:Nat):Int):=by rw[show (n:Int)-2=((n-2:Nat):Int) by omega];exact IntWalk.i64_in _ (by omega)
 have hwl:IntKind.i64.wrap (lone+l)=lone+l:=IntWalk.i64_in _ (by omega)
 clear hI hS hok hrt h hcl hp hL hLl hdl hln
 go_enter Tryz.func67,Tryz.ntmps67
 go_wp2_with (first|(go_at_call 18;refine (HDt.out _ _ (Ev.refl HI.out)).mono ?_;rintro z w' ⟨rfl,rfl⟩)|(refine wpList_make_full _ rfl _ _ 25 rfl w.heap.size 3 i0 (.int .i64 0) 1 Tryz.underlying25 hi hz0 hz1 .i64 .i64 ((n-2:Nat):Int) ((n-2:Nat):Int) (n-2) rfl rfl rfl rfl ?q1 ?q2 (Nat.le_refl _) ?_))
 case q1=>rw[hz2];omega
 case q2=>unfold maxLen;omega
 intro w1 ho1 hg1
 have hown:OwnI R w.heap.size 3 w1 (.slice (some ⟨w.heap.size,0,none⟩) (n-2) (n-2)) (dnL L e 0):=by rw[dnL_zero,HLN.out];exact OwnI.made HI.out ho1
 have he1:Ev R w R w1:=(Ev.refl HI.out).grown hg1 (by simp)
 have HO1:=Lib.hid hown
 have HE1:=Lib.hid he1
 obtain⟨d0,d2,_⟩:=HC.out R w1 he1
 clear ho1 hg1 hown he1 c0 c2
 go_wp2_with fail
 obtain⟨g6,hg6⟩:∃ g,w.heap.size=g:=⟨_,rfl⟩
 rw[hg6] at HO1 ⊢
 have HG6:=Lib.hid hg6
 go_loopg [20] n (fun g v20 wr=>∃ (i:Nat),i≤n∧n-i≤g∧v20=.int .i64 (i:Int)∧Ev R w R wr∧OwnI R g6 3 wr (.slice (some ⟨g6,0,none⟩) (n-2) (n-2)) (dnL L e i))
 case atStart=>exact⟨0,Nat.zero_le _,by omega,rfl,HE1.out,HO1.out⟩
 case round=>
  clear d0 d2
  obtain⟨i,hin,hg,rfl,he,ho⟩:=hrel
  have HE:=Lib.hid he
  have HO:=Lib.hid ho
  obtain⟨c0,c2,hf⟩:=HC.out R wr he
  clear he ho
  by_cases hil:i<n
  ·have hib:i≤4000000:=by omega
   by_cases hio:i / 2=e
   ·have hdt:decide (i / 2=e)=true:=decide_eq_true hio
    have HOn:=Lib.hid (dnL_own (L:=L) hio)
    clear hio
    go_wp2_with fail
    refine (HOw.out _ _ HE.out i hib).mono ?_
    rintro z w' ⟨rfl,rfl⟩
    rw[hdt]
    go_wp2_with fail
    go_roundg (n-(i+1))
    case measure=>omega
    case rel=>exact⟨i+1,by omega,by omega,by go_num,HE.out,by rw[HOn.out];exact HO.out⟩
   ·have hdt:decide (i / 2=e)=false:=decide_eq_false hio
    have HSt:=Lib.hid (dnL_set (L:=L) hio)
    have hpo:=HPo.out i hil hio
    have hnl:=HNl.out i hil hio
    have hlt:=HLt.out i hil
    have HIo:=Lib.hid hio
    obtain⟨bS,oS,rfl,hc⟩:=hf.1.cell (i:=i) (by rw[toI_length,HLN.out];exact hil)
    rw[toI_nth] at hc
    obtain⟨y,hy⟩:∃ y,at' L i=y:=⟨_,rfl⟩
    rw[hy] at hpo hc hlt HSt
    obtain⟨q,hq⟩:∃ q,passN L e y=q:=⟨_,rfl⟩
    have HPq:=Lib.hid (HPs.out R wr.drew HE.out.drew y hlt hpo.1)
    rw[hq] at hpo HSt HPq
    have HQo:=Lib.hid hpo.1
    have hqb:q≤4000000:=by omega
    obtain⟨_,e6,hB6,hR6,hc6,hz6⟩:=HO.out.headAt (HDl.out i) hnl
    cases e6
    obtain⟨j,hj⟩:∃ j,nmL e i=j:=⟨_,rfl⟩
    obtain⟨z2,hz2⟩:∃ j,nmL e q=j:=⟨_,rfl⟩
    have HN1:=Lib.hid (HNm.out R wr.drew HE.out.drew i hib HIo.out)
    have HN2:=Lib.hid (HNm.out R wr.drew HE.out.drew q hqb HQo.out)
    rw[hj] at HN1 hnl hc6 hz6 HSt
    rw[hz2] at HN2 HSt
    have hput:=HO.out.put (HDl.out i) j hnl ((z2:Nat):Int)
    rw[HSt.out] at hput
    have HPut:=Lib.hid hput
    clear hj hz2 hq hy hio hput hf hpo
    go_wp2_with fail
    refine (HOw.out _ _ HE.out i hib).mono ?_
    rintro z w' ⟨rfl,rfl⟩
    rw[hdt]
    go_wp2_with fail
    go_still_tail 16,(by kernel_rfl)
    still_call (Calls.drewS HN1.out)
    repeat still_step
    still_call (Calls.drewS HPq.out)
    repeat still_step
    still_call (Calls.drewS HN2.out)
    repeat still_step
    refine wpStill_nil ?_
    change wpList _ _ _ _ _ wr.drew
    obtain⟨w2,hw2⟩:∃ w2,w2=wr.drew:=⟨_,rfl⟩
    have hz7:w2.frozen? ⟨g6,j,none⟩=false:=by rw[hw2];exact hz6
    have hc7:w2.cell? ⟨g6,j,none⟩=some (.int .i64 (nth (dnL L e i) j)):=by rw[hw2];exact hc6
    have HE7:Hid (Ev R w R (w2.setCell ⟨g6,j,none⟩ (.int .i64 ((z2:Nat):Int)))):=Lib.hid (by rw[hw2];exact HE.out.drew.setCell (by show w.heap.size≤g6;rw[HG6.out];exact Nat.le_refl _) hR6 _)
    have HO7:Hid (OwnI R g6 3 (w2.setCell ⟨g6,j,none⟩ (.int .i64 ((z2:Nat):Int))) (.slice (some ⟨g6,0,none⟩) (n-2) (n-2)) (dnL L e (i+1))):=Lib.hid (by
     rw[hw2]
     have hput:=HO.out.drew.put (HDl.out i) j hnl ((z2:Nat):Int)
     rwa [HSt.out] at hput)
    rw[←hw2]
    clear hw2 hz6 hc6 HPut
    go_wp2_with fail
    go_roundg (n-(i+1))
    case measure=>omega
    case rel=>exact⟨i+1,by omega,by omega,by go_num,HE7.out,HO7.out⟩
  ·obtain rfl:i=n:=by omega
   have ho:=HO.out
   rw[HAll.out] at ho
   have HOf:=Lib.hid (fun R' w' (he:Ev R wr R' w')=>ho.free.ev he)
   clear ho hf c2
   go_wp2_with fail
   have HEd:=Lib.hid ((Ev.refl HE.out.inv).drew)
   go_region_with (first
    |(go_at_call 102;refine (HRo.out _ _ (HE.out.trans HEd.out)).mono ?_;rintro z w5 ⟨rfl,R5,he5⟩;have HEd:=Lib.hid (HEd.out.trans he5);clear he5;obtain⟨c0,_,_⟩:=HC.out _ _ (HE.out.trans HEd.out))
    |(go_at_call 26;refine (HLn.out _ _ (HE.out.trans HEd.out)).mono ?_;rintro z w' ⟨rfl,rfl⟩)
    |(go_at_call 37;refine (HNy.out _ _ HEd.out.inv _ (HOf.out _ _ HEd.out)).mono ?_;rintro z w5 ⟨q,R5,rfl,he5,hq5⟩;have HQ5:=Lib.hid hq5;have HEd:=Lib.hid (HEd.out.trans he5);clear he5 hq5))
   all_goals (go_wp2_with fail;go_ret2)
   all_goals exact⟨_,_,rfl,HE.out.trans HEd.out,HQ5.out⟩
end
section
open Go.RowKit
set_option linter.unusedVariables false
theorem baref_any {R:Reg} {w:World} {x p:Value} {e:Nat} {L:List Nat} (h:LessAt R w x p e L) {q:Addr} (hq:w.cell? q=some x) (d:Nat) (hd:d≤4000000):Calls Tryz.prog 98 #[.int .i64 (d:Int),.pointer (some q)] w fun z w'=>z=.returned (.bool (!decide (d / 2=e)))∧w=w':=by
 have HO:=Lib.hid (own_any h d hd)
 obtain⟨b,a,cap,rfl,_⟩:=h.ex
 clear h
 go_enter Tryz.func98,Tryz.ntmps98
 go_wp2_with fail
 refine HO.out.mono ?_
 rintro z w' ⟨rfl,rfl⟩
 go_wp2_with fail
 go_ret
 exact⟨rfl,rfl⟩
set_option maxRecDepth 100000 in
set_option maxHeartbeats 1000000 in
theorem indexf_bare {R:Reg} {w:World} {x p:Value} {e:Nat} {L:List Nat} (h:LessAt R w x p e L) {q:Addr} (hq:w.cell? q=some x) (a:Option Addr) (n cap:Nat) (xs:List Nat) (hv:Ints w (.slice a n cap) (toI xs)) (hn:n≤4000000) (hx:∀ i,i<n→at' xs i≤4000000):
  Calls Tryz.prog 131 #[.slice a n cap,.func (.func 98) #[] #[.pointer (some q)]] w fun z w'=>w'=w∧∃ r:Int,z=.returned (.int .i64 r)∧((r=-1∧∀ i,i<n→at' xs i / 2=e)∨∃ i:Nat,r=(i:Int)∧i<n∧¬ at' xs i / 2=e):=by
 have HL:=Lib.hid hv.length_eq
 have HV:=Lib.hid hv
 have HB:=Lib.hid (fun d hd=>baref_any h hq d hd)
 have HX:=Lib.hid hx
 obtain⟨qb,qo,qs⟩:=q
 clear hv h hq hx
 go_enter Tryz.func131,Tryz.ntmps131
 go_wp2_with fail
 go_loopg [8] n (fun g v8 wr=>∃ i:Nat,i≤n∧n-i≤g∧v8=.int .i64 (i:Int)∧wr=w∧∀ j,j<i→at' xs j / 2=e)
 case atStart=>exact⟨0,by omega,by omega,rfl,rfl,fun j hj=>by omega⟩
 case round=>
  obtain⟨i,hi,hg,rfl,rfl,hall⟩:=hrel
  have HA:=Lib.hid hall
  clear hall
  by_cases hil:i<n
  ·obtain⟨b,off,rfl,hc⟩:=HV.out.cell (i:=i) (by have:=HL.out;omega)
   rw[toI_nth] at hc
   have hyb:=HX.out i hil
   obtain⟨y,hy⟩:∃ y,at' xs i=y:=⟨_,rfl⟩
   rw[hy] at hc hyb
   have HY:=Lib.hid hy
   clear hy
   go_wp2_with fail
   refine (HB.out y hyb).mono ?_
   rintro z w' ⟨rfl,rfl⟩
   by_cases ho:y / 2=e
   ·have hdt:(!decide (y / 2=e))=false:=by rw[decide_eq_true ho];rfl
    rw[hdt]
    go_wp2_with fail
    go_roundg (n-(i+1))
    case measure=>omega
    case rel=>exact⟨i+1,by omega,by omega,by go_num,rfl,fun j hj=>by
     by_cases e:j=i
     ·subst e;rw[HY.out];exact ho
     ·exact HA.out j (by omega)⟩
   ·have hdt:(!decide (y / 2=e))=true:=by rw[decide_eq_false ho];rfl
    rw[hdt]
    go_wp2_with fail
    go_ret
    exact⟨rfl,i,rfl,Or.inr ⟨i,rfl,hil,by rw[HY.out];exact ho⟩⟩
  ·obtain rfl:i=n:=by omega
   go_wp2_with fail
   go_ret
   exact⟨rfl,-1,rfl,Or.inl ⟨rfl,HA.out⟩⟩
def ownB (e:Nat) (xs:List Nat):Bool:=xs.all fun y=>decide (y / 2=e)
def bareB (s:List Nat) (e d:Nat):Bool:=ownB e (orbitL s d)
theorem ownB_true {e:Nat} {xs:List Nat} (h:∀ i,i<xs.length→at' xs i / 2=e):ownB e xs=true:=by
 unfold ownB
 rw[List.all_eq_true]
 intro y hy
 obtain⟨i,hi,rfl⟩:=List.getElem_of_mem hy
 have:=h i hi
 simp[at',hi] at this
 simp[this]
theorem ownB_false {e:Nat} {xs:List Nat} {i:Nat} (hi:i<xs.length) (h:¬ at' xs i / 2=e):ownB e xs=false:=by
 unfold ownB
 rw[List.all_eq_false]
 refine⟨xs[i],List.getElem_mem hi,?_⟩
 simp[at',hi] at h
 simp[h]
set_option maxRecDepth 100000 in
theorem containsf_bare {R:Reg} {w:World} {x p:Value} {e:Nat} {L:List Nat} (h:LessAt R w x p e L) {q:Addr} (hq:w.cell? q=some x) (a:Option Addr) (n cap:Nat) (xs:List Nat) (hv:Ints w (.slice a n cap) (toI xs)) (hn:n≤4000000) (hx:∀ i,i<n→at' xs i≤4000000):
  Calls Tryz.prog 96 #[.slice a n cap,.func (.func 98) #[] #[.pointer (some q)]] w fun z w'=>w'=w∧z=.returned (.bool (!ownB e xs)):=by
 have HI:=Lib.hid (indexf_bare h hq a n cap xs hv hn hx)
 have hl:=hv.length_eq
 rw[toI_length] at hl
 subst hl
 have HT:=Lib.hid (@ownB_true e xs)
 have HF:=Lib.hid (fun i=>@ownB_false e xs i)
 obtain⟨qb,qo,qs⟩:=q
 clear h hq hv hx
 go_enter Tryz.func96,Tryz.ntmps96
 go_wp2_with fail
 refine HI.out.mono ?_
 rintro z w' ⟨rfl,r,rfl,⟨rfl,hall⟩|⟨i,rfl,hi,ho⟩⟩
 ·have hb:=HT.out hall
  go_wp2_with fail
  go_ret
  exact⟨rfl,by rw[hb];rfl⟩
 ·have hb:=HF.out i hi ho
  have hd:decide ((0:Int)≤(i:Int))=true:=by simp
  go_wp2_with fail
  go_ret
  exact⟨rfl,by rw[hb];rfl⟩
set_option maxRecDepth 100000 in
set_option maxHeartbeats 1000000 in
theorem bare_any (R:Reg) (w:World) (hI:Inv R w) (x p:Value) (s:List Nat) (root lone:Int) (hp:MapAt R p s root lone) (e:Nat) (L:List Nat) (h:LessAt R w x p e L) (d:Nat) (hd:d<s.length):
  Calls Tryz.prog 66 #[x,.int .i64 (d:Int)] w fun z w'=>z=.returned (.bool (bareB s e d))∧Ev R w R w':=by
 obtain⟨hS,hok⟩:=hp.ok hI
 have hn:=hok.2.1
 have hlt:=orbitL_lt hS hd
 have hol:(orbitL s d).length≤s.length+1:=orbitL_length s d
 have HAr:=Lib.hid (fun R' w' (he:Ev R w R' w')=>(by
  have:=around_any R' w' he.inv p s root lone (he.map hp) (d:Int)
  rw[orbI_in hd] at this
  exact this:Calls Tryz.prog 97 #[p,.int .i64 (d:Int)] w' _))
 have hbb:bareB s e d=ownB e (orbitL s d):=rfl
 rw[hbb]
 obtain⟨xs,hxs⟩:∃ xs,orbitL s d=xs:=⟨_,rfl⟩
 rw[hxs] at HAr hlt hol ⊢
 have HLt:Hid (∀ i,i<xs.length→at' xs i≤4000000):=Lib.hid fun i hi=>by
  have:=hlt _ (List.getElem_mem hi)
  simp[at',hi];omega
 have HH:=Lib.hid h
 obtain⟨b,a,cap,hx,hcl⟩:=h.cells
 subst hx
 have HC:=Lib.hid hcl
 obtain⟨T0,hT0⟩:∃ T,(.cells #[.pointer (some ⟨b,0,none⟩)] 97:Obj)=T:=⟨_,rfl⟩
 have he1:=(Ev.refl hI).alloc T0
 obtain⟨c0,c2,_⟩:=hcl _ _ he1
 have hq:(w.alloc T0).cell? ⟨w.heap.size,0,none⟩=some (.pointer (some ⟨b,0,none⟩)):=by rw[←hT0];simp
 have HE1:=Lib.hid he1
 have hmf:=makeFunc_run
 have hqz:w.heap.size<(w.alloc T0).heap.size:=by simp
 have HQ:=Lib.hid (fun R' w' (he:Ev R (w.alloc T0) R' w')=>(he.cell hqz (hI.none_of_ge (Nat.le_refl _))).trans hq)
 have hzz:(w.alloc T0).heap.size=w.heap.size+1:=by simp
 clear h hcl he1 hxs hlt hp hI hS hok hbb
 go_enter Tryz.func66,Tryz.ntmps66
 go_upto_region 1 with fail
 try rw[hT0]
 clear hT0
 go_wp2_with fail
 refine (HAr.out _ _ HE1.out).mono ?_
 rintro z w2 ⟨v2,rfl,he2,ho2⟩
 obtain⟨a2,c2',rfl,hv2⟩:=ho2.ints.open
 rw[toI_length] at hv2 ⊢
 have HE2:=Lib.hid (HE1.out.trans he2)
 have HCf:=Lib.hid (containsf_bare (HH.out.ev HE2.out) (HQ.out _ _ he2) a2 xs.length c2' xs hv2 (by omega) HLt.out)
 clear he2 ho2 hv2
 go_wp2_with fail
 refine HCf.out.mono ?_
 rintro z w3 ⟨rfl,rfl⟩
 go_wp2_with fail
 go_ret
 exact⟨by simp,HE2.out⟩
structure LessOwn (R:Reg) (B:Nat) (w:World) (b:Nat) (a:Option Addr) (cap:Nat) (p:Value) (e:Nat) (L:List Nat):Prop where
 nb:R b=none
 c0:w.cell? ⟨b,0,none⟩=some p
 c1:w.cell? ⟨b,1,none⟩=some (.int .i64 (e:Int))
 c2:w.cell? ⟨b,2,none⟩=some (.slice a L.length cap)
 own:OwnI R B 3 w (.slice a L.length cap) (toI L)
 ds:∀ k,(Value.slice a L.length cap).ownBlock=some k→k≠b
theorem LessOwn.ev {R R':Reg} {B b:Nat} {w w':World} {a:Option Addr} {cap:Nat} {p:Value} {e:Nat} {L:List Nat} (h:LessOwn R B w b a cap p e L) (he:Ev R w R' w'):LessOwn R' B w' b a cap p e L:=
 have hl:=lt_of_cell h.c0
 ⟨he.free b hl h.nb,(he.cell hl h.nb).trans h.c0,(he.cell hl h.nb).trans h.c1,(he.cell hl h.nb).trans h.c2,h.own.ev he,h.ds⟩
theorem LessOwn.at {R:Reg} {B b:Nat} {w:World} {a:Option Addr} {cap:Nat} {p:Value} {e:Nat} {L:List Nat} (h:LessOwn R B w b a cap p e L):LessAt R w (.pointer (some ⟨b,0,none⟩)) p e L:=
 ⟨⟨b,a,cap,rfl,h.nb,h.c0,h.c1,h.c2,h.own.free⟩⟩
theorem LessOwn.cells {R:Reg} {B b:Nat} {w:World} {a:Option Addr} {cap:Nat} {p:Value} {e:Nat} {L:List Nat} (h:LessOwn R B w b a cap p e L) {i:Nat} (hi:i<L.length):
  ∃ g,a=some ⟨g,0,none⟩∧g≠b∧B≤g∧R g=none∧w.cell? ⟨g,i,none⟩=some (.int .i64 ((at' L i:Nat):Int))∧w.frozen? ⟨g,i,none⟩=false:=by
 obtain⟨g,e,hB,hR,h1,h2⟩:=h.own.headAt (toI_length L) hi
 rw[toI_nth] at h1
 subst e
 exact⟨g,rfl,h.ds g rfl,hB,hR,h1,h2⟩
theorem LessOwn.put {R:Reg} {B b g:Nat} {w:World} {cap:Nat} {p:Value} {e:Nat} {L:List Nat} (h:LessOwn R B w b (some ⟨g,0,none⟩) cap p e L) {i:Nat} (hi:i<L.length) (y:Nat):LessOwn R B (w.setCell ⟨g,i,none⟩ (.int .i64 ((y:Nat):Int))) b (some ⟨g,0,none⟩) cap p e (L.set i y):=by
 have hgb:g≠b:=h.ds g rfl
 have e1:toI (L.set i y)=(toI L).set i ((y:Nat):Int):=by simp[toI,List.map_set]
 refine⟨h.nb,?_,?_,?_,?_,?_⟩
 ·rw[World.cell?_setCell_other _ _ _ _ (by intro e;first|exact hgb (congrArg Addr.block e)|exact hgb (congrArg Addr.block e).symm)];exact h.c0
 ·rw[World.cell?_setCell_other _ _ _ _ (by intro e;first|exact hgb (congrArg Addr.block e)|exact hgb (congrArg Addr.block e).symm)];exact h.c1
 ·rw[World.cell?_setCell_other _ _ _ _ (by intro e;first|exact hgb (congrArg Addr.block e)|exact hgb (congrArg Addr.block e).symm),List.length_set];exact h.c2
 ·rw[e1,List.length_set]
  exact h.own.put (toI_length L) i hi _
 ·rw[List.length_set];exact h.ds
def LessYes (R:Reg) (w:World) (p:Value) (e:Nat) (s:List Nat) (z:Ending) (w':World):Prop:=
 ∃ b a cap,z=.returned (.tuple #[.pointer (some ⟨b,0,none⟩),.int .i64 0])∧Ev R w R w'∧LessOwn R w.heap.size w' b a cap p e s
set_option maxRecDepth 100000 in
set_option maxHeartbeats 1000000 in
theorem dof_any (R:Reg) (w:World) (hI:Inv R w) (p:Value) (s:List Nat) (root lone:Int) (hp:MapAt R p s root lone) (e:Nat) (he:e<s.length / 2):
  Calls Tryz.prog 64 #[p,.int .i64 (e:Int)] w (LessYes R w p e s):=by
 obtain⟨hS,hok⟩:=hp.ok hI
 have hn:=hok.2.1
 have HEg:=Lib.hid (edges_any R w hI p s root lone hp)
 have HLs:=Lib.hid (mlist_any R w hI p s root lone hp)
 obtain⟨b,rfl,hb⟩:=hp
 have hb1:decide ((e:Int)<0)=false:=by simp
 have hb2:decide ((((s.length / 2:Nat):Int))≤(e:Int))=false:=by simp;omega
 have HI:=Lib.hid hI
 clear hI hS hok hb
 go_enter Tryz.func64,Tryz.ntmps64
 go_wp2_with (first|(go_at_call 21;refine HEg.out.mono ?_;rintro z w' ⟨rfl,rfl⟩))
 refine HLs.out.mono ?_
 rintro z w2 ⟨v2,rfl,he2,ho2⟩
 obtain⟨a2,c2,rfl,_⟩:=ho2.ints.open
 rw[toI_length] at ho2 ⊢
 have HE2:=Lib.hid he2
 have HO2:=Lib.hid ho2
 clear he2 ho2
 go_wp2_with fail
 go_ret2
 have hn0:=HE2.out.inv.none_of_ge (Nat.le_refl _)
 refine⟨w2.heap.size,a2,c2,rfl,HE2.out.alloc _,⟨hn0,by simp,by simp,by simp,HO2.out.alloc _,fun k hk=>?_⟩⟩
 have:=(HO2.out.lt k hk).2
 omega
end
end Go.Proofs.YtklkgicjfnbndaaGreat
