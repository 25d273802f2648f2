/- A map's genus, by how many parts, vertices, edges and faces it has; so by other names it is the same. -/
import Derived.Test.YtgphnkkdmlohlaaZShellRights19
import Derived.Test.YtgphnkkdmlohlaaZShellRights14
import Derived.Test.YtgphnkkdmlohlaaZShellRights15
import Derived.Test.YtgphnkkdmlohlaaZShellRights20
import Derived.Test.YtgphnkkdmlohlaaZShellRights13
import Derived.Deep.RegionHeld3
namespace Go.Proofs.Ytgphnkkdmlohlaa
section
set_option linter.unusedVariables false
def sumK (f:Nat→Nat):Nat→Nat
 | 0=>0
 | k+1=>sumK f k+f k
theorem sum_tally {N:Nat→Int} {p:Nat→Prop} {n C:Nat} (h0:∀ d,d<n→0≤N d∧N d<(C:Int)):sumK (fun k=>tally (fun d=>N d=(k:Int)∧p d) n) C=tally p n:=by
 have key:∀ c,sumK (fun k=>tally (fun d=>N d=(k:Int)∧p d) n) c=tally (fun d=>p d∧N d<(c:Int)) n:=fun c=>by
  induction c with
  | zero=>exact (tally_none fun d hd h=>by have:=(h0 d hd).1;have:=h.2;omega).symm
  | succ c ih=>
   show sumK _ c+_=_
   rw[ih,tally_split (fun d=>p d∧N d<((c+1:Nat):Int)) (fun d=>N d<(c:Int))]
   congr 1
   ·exact tally_congr fun d _=>⟨fun h=>⟨⟨h.1,by omega⟩,h.2⟩,fun h=>⟨h.1.1,h.2⟩⟩
   ·exact tally_congr fun d _=>⟨fun h=>⟨⟨h.2,by omega⟩,by omega⟩,fun h=>⟨by omega,h.1.1⟩⟩
 rw[key]
 exact tally_congr fun d hd=>⟨fun h=>h.1,fun h=>⟨h,(h0 d hd).2⟩⟩
theorem genus_total {s:List Nat} (hs:IsPerm s) (he:s.length % 2=0):2*genusL s=2*(partsN s:Int)-((sizesL s).length:Nat)+((s.length / 2:Nat):Int)-((sizesL (phiL s)).length:Nat):=by
 have hp:=phiL_perm hs he
 have hN:∀ d,d<s.length→0≤nth (partsL s) d∧nth (partsL s) d<((partsN s:Nat):Int):=fun d hd=>partsL_lt hs he hd
 have h1:sumK (fun k=>vcnt s (partsL s) (k:Int) s.length) (partsN s)=(sizesL s).length:=by
  rw[sizesL_tally hs,←sum_tally (p:=Least (cyc s.length (at' s))) hN]
  congr 1
  funext k
  exact vcnt_tally hs (partsL s) k (Nat.le_refl _)
 have h2:sumK (fun k=>vcnt (phiL s) (partsL s) (k:Int) s.length) (partsN s)=(sizesL (phiL s)).length:=by
  rw[sizesL_tally hp,phiL_length,←sum_tally (p:=Least (cyc s.length (at' (phiL s)))) hN]
  congr 1
  funext k
  have:=vcnt_tally hp (partsL s) k (j:=s.length) (by rw[phiL_length];exact Nat.le_refl _)
  rw[phiL_length] at this
  exact this
 have h3:sumK (fun k=>ecnt (partsL s) (k:Int) s.length) (partsN s)=s.length / 2:=by
  have e:∀ k:Nat,ecnt (partsL s) (k:Int) s.length=tally (fun e=>nth (partsL s) (2*e)=(k:Int)∧True) (s.length / 2):=fun k=>by
   have:=(edges_tally (s:=s) (k:Int) (fun x hx=>partsL_mate hs he hx) (e:=s.length / 2) (by omega)).1
   rw[show 2*(s.length / 2)=s.length by omega] at this
   rw[this]
   exact tally_congr fun d _=>⟨fun h=>⟨h,trivial⟩,fun h=>h.1⟩
  rw[show (fun k:Nat=>ecnt (partsL s) (k:Int) s.length)=fun k:Nat=>tally (fun e=>nth (partsL s) (2*e)=(k:Int)∧True) (s.length / 2) from funext e,
   sum_tally (N:=fun e=>nth (partsL s) (2*e)) (p:=fun _=>True) (n:=s.length / 2) (C:=partsN s) fun d hd=>hN (2*d) (by omega)]
  exact tally_all fun _ _=>trivial
 have key:∀ c,c≤partsN s→2*genusTo s c=2*(c:Int)-(sumK (fun k=>vcnt s (partsL s) (k:Int) s.length) c:Nat)+(sumK (fun k=>ecnt (partsL s) (k:Int) s.length) c:Nat)-(sumK (fun k=>vcnt (phiL s) (partsL s) (k:Int) s.length) c:Nat):=fun c=>by
  induction c with
  | zero=>intro _;rfl
  | succ c ih=>
   intro hc
   have ih:=ih (by omega)
   have hg:=(genOf_euler hs he (k:=c) (by omega)).2
   show 2*(genusTo s c+genOf s (partsL s) c)=_
   simp only[sumK]
   omega
 have:=key (partsN s) (Nat.le_refl _)
 rw[h1,h2,h3] at this
 exact this
section
variable {p n : Nat} {r q : Nat → Nat → Prop} {P' P : Nat → Prop} (hr : Per p r) (hq : Per n q) (f : Nat → Nat)
 (hf:∀ x,x<p→P' x→f x<n∧P (f x)) (hb:∀ y,y<n→P y→∃ x,x<p∧P' x∧q (f x) y) (hP:∀ x y,P x→q x y→P y) (hP':∀ x y,P' x→r x y→P' y) (hfl:∀ x,x<p→f x<n) (hrq:∀ x y,x<p→y<p→(r x y↔q (f x) (f y)))
include hr hq hf hb hP hP' hfl hrq
end
section
variable {s t : List Nat} (hs : IsPerm s) (ht : IsPerm t) (hl : t.length = s.length)
include hs ht hl
end
section
variable {s t : List Nat} (hs : IsPerm s) (he : s.length % 2 = 0) (ht : IsPerm t) (hl : t.length = s.length) (hm : Mates t)
include hs he ht hl hm
end
end
section
set_option linter.unusedVariables false
section
variable {s t : List Nat} (hs : IsPerm s) (he : s.length % 2 = 0) (ht : IsPerm t) (hl : t.length = s.length) (hm : Mates t)
include hs he ht hl hm
end
end
section
set_option linter.unusedVariables false
section
variable {M : List Nat} (hM : IsPerm M) (fb : Nat → Bool)
include hM
end
section
variable {s t : List Nat} (hs : IsPerm s) (ht : IsPerm t) (hl : t.length = s.length)
include ht
include hs hl
end
end
section
set_option linter.unusedVariables false
def hasE (F:List Nat) (d:Nat):Bool:=F.any fun x=>decide (x / 2=d / 2)
structure FOk (n:Nat) (F:List Nat):Prop where
 lt:∀ i,i<F.length→at' F i<n
 one:∀ i j,i<F.length→j<F.length→at' F i / 2=at' F j / 2→i=j
section
variable {n : Nat} {F : List Nat} (h : FOk n F) (he : n % 2 = 0) (hall : ∀ d, d < n → hasE F d = true)
include h he hall
end
section
variable {s : List Nat} (hs : IsPerm s) (he : s.length % 2 = 0)
include hs he
end
end
section
set_option linter.unusedVariables false
section
variable {s t : List Nat} (hs : IsPerm s) (he : s.length % 2 = 0) (ht : IsPerm t) (hl : t.length = s.length) (hm : Mates t)
include hs he ht hl hm
end
section
variable {s t : List Nat} (hs : IsPerm s) (he : s.length % 2 = 0) (ht : IsPerm t) (hl : t.length = s.length) (hm : Mates t)
include hs he ht hl hm
end
end
section
set_option linter.unusedVariables false
section
variable {n : Nat} {G l : List Nat} (h : FOk n (G ++ l))
include h
end
section
variable {s : List Nat} (hs : IsPerm s) (he : s.length % 2 = 0)
include hs he
end
end
section
set_option linter.unusedVariables false
section
variable {s : List Nat} (hs : IsPerm s) (he : s.length % 2 = 0) {V : Nat} (hV : (sizesL s).length ≤ V)
include hs he hV
end
end
section
open Go.RowKit
set_option linter.unusedVariables false
end
section
open Go.RowKit
set_option linter.unusedVariables false
end
section
open Go.RowKit
set_option linter.unusedVariables false
end
section
open Go.RowKit
set_option linter.unusedVariables false
end
section
open Go.RowKit
set_option linter.unusedVariables false
end
section
set_option linter.unusedVariables false
section
variable {s : List Nat} (hs : IsPerm s) {e : Nat} (hn : 2 * e + 2 ≤ s.length) (hne : nth (namesL s) (2 * e) ≠ nth (namesL s) (2 * e + 1))
include hs hn hne
end
end
end Go.Proofs.Ytgphnkkdmlohlaa
