/- parquetryref23.Do, of any kind, at any darts. Conditions: at most 99000 darts, with a star's. -/
import Derived.Test.YtklkgicjfnbndaaGreatZScriptPlays42
import Derived.Test.YtklkgicjfnbndaaGreatZScriptPlays43
import Derived.Test.YtklkgicjfnbndaaGreatZScriptPlays44
import Derived.Test.YtklkgicjfnbndaaGreatZScriptPlays46
import Derived.Test.YtklkgicjfnbndaaGreatZScriptPlays45
namespace Go.Proofs.YtklkgicjfnbndaaGreat
open Go.RowKit
set_option linter.unusedVariables false
set_option linter.unusedSimpArgs false
def DoPost (R:Reg) (w:World) (v:Value) (root lone:Int) (a b:Bool) (L:List Nat) (z:Ending) (w2:World):Prop:=
 (a=false∧z=.returned (.tuple #[refV v root lone,.int .i64 1])∧Ev R w R w2) ∨
 (a=true∧b=false∧z=.returned (.tuple #[refV v root lone,.int .i64 8])∧Ev R w R w2) ∨
 (a=true∧b=true∧RetDo R w L root lone z w2)
theorem flipB_iff {s:List Nat} (hes:s.length % 2=0) {d:Nat} (hd:d<s.length):flipB s d=true↔((orbitL (phiL s) d).length=3∧(orbitL (phiL s) (d ^^^ 1)).length=3∧nth (namesL (phiL s)) d≠nth (namesL (phiL s)) (d ^^^ 1)∧at' s d≠d∧at' s (d ^^^ 1)≠d ^^^ 1):=by
 unfold flipB
 have hm:=xor_one_lt hes hd
 rw[orbI_in (by rw[phiL_length];exact hd),orbI_in (by rw[phiL_length];exact hm),nameI_in (by rw[phiL_length];exact hd),nameI_in (by rw[phiL_length];exact hm),toI_length,toI_length]
 simp only[Bool.and_eq_true,decide_eq_true_eq,Bool.not_eq_true',decide_eq_false_iff_not]
 exact⟨fun h=>⟨h.1.1.1.1,h.1.1.1.2,h.1.1.2,h.1.2,h.2⟩,fun h=>⟨⟨⟨⟨h.1,h.2.1⟩,h.2.2.1⟩,h.2.2.2.1⟩,h.2.2.2.2⟩⟩
theorem starL_eq {s:List Nat} (hs:IsPerm s) (hes:s.length % 2=0) {d:Nat} (hd:d<s.length):starL s d=starC s (orbitL (phiL s) d):=by
 obtain⟨k1,k2,k3,_⟩:=star_face hs hes hd rfl
 unfold starL
 rw[starGo_eq hs k1 k2 _ (Nat.le_refl _),stG_all k3]
theorem r23do_any (R:Reg) (w:World) (hI:Inv R w) (v:Value) (s:List Nat) (root lone:Int) (hv:FreeI R w v (toI s)) (hS:IsPerm s) (hn:s.length≤99000) (hev:s.length % 2=0) (k:Nat) (hk:k<5) (d e:Int)
  (hst:k=3→∀ D:Nat,d=(D:Int)→D<s.length→s.length+2*(orbitL (phiL s) D).length≤99000):
  Calls Tryz.prog 75 #[refV v root lone,.int .i64 (k:Int),.int .i64 d,.int .i64 e] w (DoPost R w v root lone (wayR s.length k d e) (wayB s k d e) (wayL s k d e)):=by
 cases hr:wayR s.length k d e with
 | false=>exact (do_out R w hI v s root lone hv (by omega) k d e hr).mono fun z w2 h=>Or.inl ⟨rfl,h⟩
 | true=>
  rcases (by omega:k=0∨k=1∨k=2∨k=3∨k=4) with rfl|rfl|rfl|rfl|rfl
  ·obtain⟨D,rfl,hd⟩:=inR_nat (show inR s.length d=true from hr)
   exact (do_leaf R w hI v s root lone hv hS hn hev D hd e).mono fun z w2 h=>Or.inr (Or.inr ⟨rfl,rfl,h⟩)
  ·have hr':(inR s.length d && inR s.length e)=true:=hr
   rw[Bool.and_eq_true] at hr'
   obtain⟨D,rfl,hd⟩:=inR_nat hr'.1
   obtain⟨E,rfl,he⟩:=inR_nat hr'.2
   refine (do_chord R w hI v s root lone hv hS hn hev D hd E he).mono fun z w2 h=>?_
   have hb:wayB s 1 (D:Int) (E:Int)=decide (nth (namesL (phiL s)) (at' s D)=nth (namesL (phiL s)) (at' s E)):=by
    show decide (nameI (phiL s) (atI s (D:Int))=nameI (phiL s) (atI s (E:Int)))=_
    rw[atI_in hd,atI_in he,nameI_in (by rw[phiL_length];exact hS.lt hd),nameI_in (by rw[phiL_length];exact hS.lt he)]
   rcases h with ⟨h1,h2⟩|⟨h1,h2,h3⟩
   ·exact Or.inr (Or.inr ⟨rfl,by rw[hb];exact decide_eq_true h1,h2⟩)
   ·exact Or.inr (Or.inl ⟨rfl,by rw[hb];exact decide_eq_false h1,h2,h3⟩)
  ·obtain⟨D,rfl,hd⟩:=inR_nat (show inR s.length d=true from hr)
   exact (do_split R w hI v s root lone hv hS hn hev D hd e).mono fun z w2 h=>Or.inr (Or.inr ⟨rfl,rfl,h⟩)
  ·obtain⟨D,rfl,hd⟩:=inR_nat (show inR s.length d=true from hr)
   refine (do_star R w hI v s root lone hv hS hn hev D hd (hst rfl D rfl hd) e).mono fun z w2 h=>Or.inr (Or.inr ⟨rfl,rfl,?_⟩)
   show RetDo R w (starL s D) root lone z w2
   rw[starL_eq hS hev hd]
   exact h
  ·obtain⟨D,rfl,hd⟩:=inR_nat (show inR s.length d=true from hr)
   refine (do_flip R w hI v s root lone hv hS hn hev D hd e).mono fun z w2 h=>?_
   have hb:wayB s 4 (D:Int) e=flipB s D:=rfl
   rcases h with ⟨h1,h2,h3,h4,h5,h6⟩|⟨h1,h2,h3⟩
   ·exact Or.inr (Or.inr ⟨rfl,by rw[hb];exact (flipB_iff hev hd).2 ⟨h1,h2,h3,h4,h5⟩,h6⟩)
   ·refine Or.inr (Or.inl ⟨rfl,?_,h2,h3⟩)
    rw[hb]
    cases hf:flipB s D with
    | false=>rfl
    | true=>exact absurd ((flipB_iff hev hd).1 hf) h1
end Go.Proofs.YtklkgicjfnbndaaGreat
