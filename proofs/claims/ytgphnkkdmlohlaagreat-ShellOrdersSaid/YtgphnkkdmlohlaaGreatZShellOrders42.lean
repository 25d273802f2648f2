/- Three rows that stay while newer rows are written. Conditions: none. -/
import Derived.Test.YtgphnkkdmlohlaaGreatZShellOrders35
namespace Go.Proofs.YtgphnkkdmlohlaaGreat
open Go.RowKit
set_option linter.unusedVariables false
theorem OwnI.keepNew {R:Reg} {B B':Nat} {w w':World} {v v':Value} {xs ys:List Int} (h:OwnI R B 3 w v xs) (h':OwnI R B' 3 w v' ys) (hl:∀ k,v.ownBlock=some k→k<B') (hg:w.grownBy w' v'.ownBlock):OwnI R B 3 w' v xs:=by
 refine h.kept hg ?_
 cases hb:v.ownBlock with
 | none=>exact .inl rfl
 | some k=>
  refine .inr fun e=>?_
  have h1:=(h'.lt k e.symm).1
  have h2:=hl k hb
  omega
theorem le_alloc (w:World) (o:Obj):w.heap.size≤(w.alloc o).heap.size:=by simp
structure Trio (R:Reg) (w0:World) (b1 b2 bo:Nat) (w:World) (v4 v5 vc:Value) (Bl Gl Cl:List Int):Prop where
 ev:Ev R w0 R w
 bd:OwnI R b2 3 w v4 Bl
 gn:OwnI R b2 3 w v5 Gl
 co:OwnI R b1 3 w vc Cl
 l4:∀ k,v4.ownBlock=some k→k<bo
 l5:∀ k,v5.ownBlock=some k→k<bo
 lc:∀ k,vc.ownBlock=some k→k<bo
 sz:bo≤w.heap.size
section
variable {R : Reg} {w0 : World} {b1 b2 bo : Nat} {w : World} {v4 v5 vc : Value} {Bl Gl Cl : List Int} (h : Trio R w0 b1 b2 bo w v4 v5 vc Bl Gl Cl)
include h
theorem Trio.to {w':World} (he:Ev R w R w'):Trio R w0 b1 b2 bo w' v4 v5 vc Bl Gl Cl:=⟨h.ev.trans he,h.bd.ev he,h.gn.ev he,h.co.ev he,h.l4,h.l5,h.lc,Nat.le_trans h.sz he.size⟩
theorem Trio.alloc (o:Obj):Trio R w0 b1 b2 bo (w.alloc o) v4 v5 vc Bl Gl Cl:=⟨h.ev.alloc o,h.bd.alloc o,h.gn.alloc o,h.co.alloc o,h.l4,h.l5,h.lc,by have:=h.sz;simp;omega⟩
theorem Trio.drew:Trio R w0 b1 b2 bo w.drew v4 v5 vc Bl Gl Cl:=⟨h.ev.drew,h.bd.drew,h.gn.drew,h.co.drew,h.l4,h.l5,h.lc,h.sz⟩
theorem Trio.app {B':Nat} {w':World} {v':Value} {ys:List Int} (h':OwnI R B' 3 w v' ys) (hB:bo≤B') (h0:w0.heap.size≤bo) (hg:w.grownBy w' v'.ownBlock):Trio R w0 b1 b2 bo w' v4 v5 vc Bl Gl Cl:=
 ⟨h.ev.app h' (by omega) hg,h.bd.keepNew h' (fun k e=>by have:=h.l4 k e;omega) hg,h.gn.keepNew h' (fun k e=>by have:=h.l5 k e;omega) hg,h.co.keepNew h' (fun k e=>by have:=h.lc k e;omega) hg,h.l4,h.l5,h.lc,by have:=h.sz;have:=hg.size;omega⟩
end
theorem OwnI.lit0 {R:Reg} {W:World} {B:Nat} (hI:Inv R W) (hB:B≤W.heap.size):OwnI R B 3 (W.alloc (.cells #[] 3)) (.slice (some ⟨W.heap.size,0,none⟩) 0 0) []:=by
 have h:=World.ownsRow_lit (base:=B) (e:=3) (size:=1) W #[] 0 hB (by simp[maxLen]) rfl
 refine⟨by simpa using h,fun k hk=>?_⟩
 simp only[Value.ownBlock,Option.some.injEq] at hk
 rw[←hk]
 exact hI.none_of_ge (Nat.le_refl _)
theorem Ints.drop {w:World} {b off n cap:Nat} {xs:List Int} (h:Ints w (.slice (some ⟨b,off,none⟩) n cap) xs) {k:Nat} (hk:k≤n):Ints w (.slice (some ⟨b,off+k,none⟩) (n-k) (cap-k)) (xs.drop k):=by
 have hl:=h.length_eq
 obtain⟨a',cap',e,h1,h2,h3⟩:=h
 cases e
 have hl2:(xs.drop k).length=xs.length-k:=by rw[List.length_drop]
 refine⟨_,_,by rw[hl2],by omega,by unfold maxLen at *;omega,fun i hi=>?_⟩
 rw[hl2] at hi
 obtain⟨b',off',e,hc⟩:=h3 (k+i) (by omega)
 cases e
 refine⟨b,off+k,rfl,?_⟩
 rw[Nat.add_assoc,hc]
 simp[nth]
end Go.Proofs.YtgphnkkdmlohlaaGreat
