/- Shrunk, an edge of two vertices leaves one vertex less, and as many faces; those that are left bare counted. -/
import Derived.Test.YtgphnkkdmlohlaaGreatDoorZWoodNo20
import Derived.Test.YtgphnkkdmlohlaaGreatDoorZWoodNo01
import Derived.Test.YtgphnkkdmlohlaaGreatDoorZWoodNo15
import Derived.Test.YtgphnkkdmlohlaaGreatDoorZWoodNo18
import Derived.Deep.RegionLaw
namespace Go.Proofs.YtgphnkkdmlohlaaGreatDoor
section
set_option linter.unusedVariables false
section
variable {s : List Nat} (hs : IsPerm s) {e : Nat} (hn : 2 * e + 2 ≤ s.length) (hne : nth (namesL s) (2 * e) ≠ nth (namesL s) (2 * e + 1))
include hs hn hne
end
end
section
set_option linter.unusedVariables false
def Mates (t:List Nat):Prop:=∀ d,d<t.length→at' t (d ^^^ 1)=at' t d ^^^ 1
section
variable {s t : List Nat} (hs : IsPerm s) (ht : IsPerm t) (hl : t.length = s.length)
include hs ht hl
end
end
section
set_option linter.unusedVariables false
def sumK (f:Nat→Nat):Nat→Nat
 | 0=>0
 | k+1=>sumK f k+f k
theorem sum_tally {N:Nat→Int} {p:Nat→Prop} {n C:Nat} (h0:∀ d,d<n→0≤N d∧N d<(C:Int)):sumK (fun k=>tally (fun d=>N d=(k:Int)∧p d) n) C=tally p n:=by
 have key:∀ c,sumK (fun k=>tally (fun d=>N d=(k:Int)∧p d) n) c=tally (fun d=>p d∧N d<(c:Int)) n:=fun c=>by
  induction c with
  | zero=>exact (tally_none fun d hd h=>by have:=(h0 d hd).1;have:=h.2;omega).symm
  | succ c ih=>
   show sumK _ c+_=_
   rw[ih,tally_split (fun d=>p d∧N d<((c+1:Nat):Int)) (fun d=>N d<(c:Int))]
   congr 1
   ·exact tally_congr fun d _=>⟨fun h=>⟨⟨h.1,by omega⟩,h.2⟩,fun h=>⟨h.1.1,h.2⟩⟩
   ·exact tally_congr fun d _=>⟨fun h=>⟨⟨h.2,by omega⟩,by omega⟩,fun h=>⟨by omega,h.1.1⟩⟩
 rw[key]
 exact tally_congr fun d hd=>⟨fun h=>h.1,fun h=>⟨h,(h0 d hd).2⟩⟩
theorem genus_total {s:List Nat} (hs:IsPerm s) (he:s.length % 2=0):2*genusL s=2*(partsN s:Int)-((sizesL s).length:Nat)+((s.length / 2:Nat):Int)-((sizesL (phiL s)).length:Nat):=by
 have hp:=phiL_perm hs he
 have hN:∀ d,d<s.length→0≤nth (partsL s) d∧nth (partsL s) d<((partsN s:Nat):Int):=fun d hd=>partsL_lt hs he hd
 have h1:sumK (fun k=>vcnt s (partsL s) (k:Int) s.length) (partsN s)=(sizesL s).length:=by
  rw[sizesL_tally hs,←sum_tally (p:=Least (cyc s.length (at' s))) hN]
  congr 1
  funext k
  exact vcnt_tally hs (partsL s) k (Nat.le_refl _)
 have h2:sumK (fun k=>vcnt (phiL s) (partsL s) (k:Int) s.length) (partsN s)=(sizesL (phiL s)).length:=by
  rw[sizesL_tally hp,phiL_length,←sum_tally (p:=Least (cyc s.length (at' (phiL s)))) hN]
  congr 1
  funext k
  have:=vcnt_tally hp (partsL s) k (j:=s.length) (by rw[phiL_length];exact Nat.le_refl _)
  rw[phiL_length] at this
  exact this
 have h3:sumK (fun k=>ecnt (partsL s) (k:Int) s.length) (partsN s)=s.length / 2:=by
  have e:∀ k:Nat,ecnt (partsL s) (k:Int) s.length=tally (fun e=>nth (partsL s) (2*e)=(k:Int)∧True) (s.length / 2):=fun k=>by
   have:=(edges_tally (s:=s) (k:Int) (fun x hx=>partsL_mate hs he hx) (e:=s.length / 2) (by omega)).1
   rw[show 2*(s.length / 2)=s.length by omega] at this
   rw[this]
   exact tally_congr fun d _=>⟨fun h=>⟨h,trivial⟩,fun h=>h.1⟩
  rw[show (fun k:Nat=>ecnt (partsL s) (k:Int) s.length)=fun k:Nat=>tally (fun e=>nth (partsL s) (2*e)=(k:Int)∧True) (s.length / 2) from funext e,
   sum_tally (N:=fun e=>nth (partsL s) (2*e)) (p:=fun _=>True) (n:=s.length / 2) (C:=partsN s) fun d hd=>hN (2*d) (by omega)]
  exact tally_all fun _ _=>trivial
 have key:∀ c,c≤partsN s→2*genusTo s c=2*(c:Int)-(sumK (fun k=>vcnt s (partsL s) (k:Int) s.length) c:Nat)+(sumK (fun k=>ecnt (partsL s) (k:Int) s.length) c:Nat)-(sumK (fun k=>vcnt (phiL s) (partsL s) (k:Int) s.length) c:Nat):=fun c=>by
  induction c with
  | zero=>intro _;rfl
  | succ c ih=>
   intro hc
   have ih:=ih (by omega)
   have hg:=(genOf_euler hs he (k:=c) (by omega)).2
   show 2*(genusTo s c+genOf s (partsL s) c)=_
   simp only[sumK]
   omega
 have:=key (partsN s) (Nat.le_refl _)
 rw[h1,h2,h3] at this
 exact this
section
variable {p n : Nat} {r q : Nat → Nat → Prop} {P' P : Nat → Prop} (hr : Per p r) (hq : Per n q) (f : Nat → Nat)
 (hf:∀ x,x<p→P' x→f x<n∧P (f x)) (hb:∀ y,y<n→P y→∃ x,x<p∧P' x∧q (f x) y) (hP:∀ x y,P x→q x y→P y) (hP':∀ x y,P' x→r x y→P' y) (hfl:∀ x,x<p→f x<n) (hrq:∀ x y,x<p→y<p→(r x y↔q (f x) (f y)))
include hr hq hf hb hP hP' hfl hrq
end
section
variable {s t : List Nat} (hs : IsPerm s) (ht : IsPerm t) (hl : t.length = s.length)
include hs ht hl
end
section
variable {s t : List Nat} (hs : IsPerm s) (he : s.length % 2 = 0) (ht : IsPerm t) (hl : t.length = s.length) (hm : Mates t)
include hs he ht hl hm
end
end
section
set_option linter.unusedVariables false
section
variable {s : List Nat} (hs : IsPerm s) (he : s.length % 2 = 0) {e : Nat} (hn : 2 * e + 2 ≤ s.length) (hne : nth (namesL s) (2 * e) ≠ nth (namesL s) (2 * e + 1))
include hs he hn
include hne
end
end
section
set_option linter.unusedVariables false
theorem orbitGo_map {s:List Nat} {i:Nat}:∀ (f x:Nat),Reach s i f x→∃ m,it s m x=i∧orbitGo s i f x=(List.range m).map (fun j=>it s j x)
 | 0,x,h=>by
  obtain⟨j,hj,e⟩:=h
  obtain rfl:j=0:=by omega
  exact⟨0,e,rfl⟩
 | f+1,x,h=>by
  by_cases hx:x=i
  ·subst hx;exact⟨0,rfl,by rw[orbitGo_end];rfl⟩
  ·obtain⟨f',hf,hr⟩:=h.next hx
   obtain rfl:f'=f:=by omega
   obtain⟨m,h1,h2⟩:=orbitGo_map f' (at' s x) hr
   refine⟨m+1,h1,?_⟩
   rw[orbitGo_next hx,h2,List.range_succ_eq_map,List.map_cons,List.map_map]
   rfl
theorem orbitL_map {s:List Nat} (hs:IsPerm s) {i:Nat} (hi:i<s.length):∃ c,0<c∧it s c i=i∧orbitL s i=(List.range c).map (fun j=>it s j i):=by
 obtain⟨m,h1,h2⟩:=orbitGo_map s.length (at' s i) (hs.reach hi)
 refine⟨m+1,by omega,h1,?_⟩
 show i :: orbitGo s i s.length (at' s i)=_
 rw[h2,List.range_succ_eq_map,List.map_cons,List.map_map]
 rfl
def nextI (n i:Nat):Nat:=if i+1<n then i+1 else 0
end
section
set_option linter.unusedVariables false
end
section
open Go.RowKit
set_option linter.unusedVariables false
end
section
open Go.RowKit Go.Maps
set_option linter.unusedVariables false
def RowOk (R:Reg) (w:World) (X:Nat→Prop) (u:Value) (xs:List Nat):Prop:=∃ a c,u=.slice a xs.length c∧FreeI R w (.slice a xs.length c) (toI xs)∧∀ k,(Value.slice a xs.length c).ownBlock=some k→¬ X k∧k<w.heap.size
structure RowsLL (R:Reg) (w:World) (X:Nat→Prop) (vs:List Value) (xss:List (List Nat)):Prop where
 len:vs.length=xss.length
 row:∀ i,i<xss.length→∃ u,vs[i]?=some u∧RowOk R w X u (xss.getD i [])
theorem islice_info:(Tryz.prog.info? 25).map (fun i=>(i.zero,i.size,i.bytes))=some (some nilS,1,24):=by kernel_rfl
end
section
set_option linter.unusedVariables false
section
variable {s : List Nat} (hs : IsPerm s) {e : Nat}
include hs
end
section
variable {s : List Nat} (hs : IsPerm s) {e : Nat} (hn : 2 * e + 2 ≤ s.length)
include hs hn
end
end
section
set_option linter.unusedVariables false
section
variable {s : List Nat} (hs : IsPerm s) {e : Nat} (hn : 2 * e + 2 ≤ s.length)
include hs hn
end
end
section
open Go.RowKit
set_option linter.unusedVariables false
structure OutAt (R:Reg) (w0 w:World) (bo gS m:Nat) (T:List Nat) (r l:Int):Prop where
 ev:Ev R w0 R w
 nb:R bo=none
 blk:w.heap[bo]?=some (.cells #[.slice (some ⟨gS,0,none⟩) m m,.int .i64 r,.int .i64 l] 27 (0,0))
 own:OwnI R w0.heap.size 3 w (.slice (some ⟨gS,0,none⟩) m m) (toI T)
 lt:w0.heap.size≤bo
 ne:gS≠bo
 len:T.length=m
theorem OutAt.putS {R:Reg} {w0 w:World} {bo gS m:Nat} {T:List Nat} {r l:Int} (h:OutAt R w0 w bo gS m T r l) {i:Nat} (hi:i<m) (y:Nat):OutAt R w0 (w.setCell ⟨gS,i,none⟩ (.int .i64 ((y:Nat):Int))) bo gS m (T.set i y) r l where
 ev:=h.ev.setCell (h.own.lt gS rfl).1 (h.own.2 gS rfl) _
 nb:=h.nb
 blk:=by
  rw[Below.heap_setCell _ _ _ _ (by first|exact h.ne|exact h.ne.symm)]
  exact h.blk
 own:=by
  have e1:toI (T.set i y)=(toI T).set i ((y:Nat):Int):=by simp[toI,List.map_set]
  rw[e1]
  exact h.own.put (by rw[toI_length];exact h.len) i hi _
 lt:=h.lt
 ne:=h.ne
 len:=by rw[List.length_set];exact h.len
theorem OutAt.cells {R:Reg} {w0 w:World} {bo gS m:Nat} {T:List Nat} {r l:Int} (h:OutAt R w0 w bo gS m T r l):
  w.cell? ⟨bo,0,none⟩=some (.slice (some ⟨gS,0,none⟩) m m)∧w.cell? ⟨bo,1,none⟩=some (.int .i64 r)∧w.cell? ⟨bo,2,none⟩=some (.int .i64 l)∧∀ o,w.frozen? ⟨bo,o,none⟩=false:=box_cells h.blk
theorem toI_reps (m:Nat):toI (List.replicate m 0)=List.replicate m 0:=by simp[toI]
end
end Go.Proofs.YtgphnkkdmlohlaaGreatDoor
