/- shell.left as Order holds it: its box and its three rows, all its own. -/
import Derived.Test.YtgphnkkdmlohlaaGreatDoorZWoodNo35
import Derived.Test.YtgphnkkdmlohlaaGreatDoorZWoodNo40
import Derived.Test.YtgphnkkdmlohlaaGreatDoorZWoodNo28
import Derived.Test.YtgphnkkdmlohlaaGreatDoorZWoodNo36
import Derived.Test.YtgphnkkdmlohlaaGreatDoorZWoodNo17
import Derived.Test.YtgphnkkdmlohlaaGreatDoorZWoodNo39
namespace Go.Proofs.YtgphnkkdmlohlaaGreatDoor
section
open Go.RowKit
set_option linter.unusedVariables false
def boolV (G:Nat→Bool) (V:Nat):List Value:=(List.range V).map fun i=>.bool (G i)
theorem boolV_length (G:Nat→Bool) (V:Nat):(boolV G V).length=V:=by simp[boolV]
theorem boolV_at (G:Nat→Bool) {V i:Nat} (hi:i<V):(boolV G V)[i]?=some (.bool (G i)):=by simp[boolV,hi]
theorem boolV_set (G:Nat→Bool) (V v:Nat):(boolV G V).set v (.bool true)=boolV (fun i=>if i=v then true else G i) V:=by
 refine List.ext_getElem (by simp[boolV]) fun j h1 h2=>?_
 rw[List.getElem_set]
 simp only[boolV,List.getElem_map,List.getElem_range]
 by_cases e:v=j
 ·rw[if_pos e,if_pos e.symm]
 ·rw[if_neg e,if_neg (fun e2=>e e2.symm)]
structure LeftOwn (R0:Reg) (w0:World) (R:Reg) (w:World) (b:Nat) (p:Value) (ab:Option Addr) (n cb:Nat) (ag:Option Addr) (cg:Nat) (ad:Option Addr) (cd V:Nat) (B:List Int) (G:Nat→Bool) (D:List Int):Prop where
 ev:Ev R0 w0 R w
 lo:w0.heap.size≤b
 nb:R b=none
 box:w.heap[b]?=some (.cells #[p,.slice ab n cb,.slice ag V cg,.slice ad V cd] 104 (0,0))
 bor:OwnI R w0.heap.size 3 w (.slice ab n cb) B
 bl:B.length=n
 gon:OwnV R w0.heap.size 4 1 w (.slice ag V cg) V (boolV G V)
 dar:OwnI R w0.heap.size 3 w (.slice ad V cd) D
 dl:D.length=V
 vm:V≤maxLen
 d1:(Value.slice ab n cb).ownBlock≠some b
 d2:(Value.slice ag V cg).ownBlock≠some b
 d3:(Value.slice ad V cd).ownBlock≠some b
 d4:∀ k,(Value.slice ab n cb).ownBlock=some k→(Value.slice ag V cg).ownBlock≠some k
 d5:∀ k,(Value.slice ab n cb).ownBlock=some k→(Value.slice ad V cd).ownBlock≠some k
 d6:∀ k,(Value.slice ag V cg).ownBlock=some k→(Value.slice ad V cd).ownBlock≠some k
section
variable {R0 R R' : Reg} {w0 w w' : World} {b : Nat} {p : Value} {ab ag ad : Option Addr} {n cb cg cd V : Nat} {B : List Int} {G : Nat → Bool} {D : List Int}
theorem LeftOwn.step (h:LeftOwn R0 w0 R w b p ab n cb ag cg ad cd V B G D) (he:Ev R w R' w'):LeftOwn R0 w0 R' w' b p ab n cb ag cg ad cd V B G D:=
 ⟨h.ev.trans he,h.lo,he.free b (lt_of_block h.box) h.nb,(he.block b (lt_of_block h.box) h.nb).trans h.box,h.bor.ev he,h.bl,h.gon.ev he,h.dar.ev he,h.dl,h.vm,h.d1,h.d2,h.d3,h.d4,h.d5,h.d6⟩
theorem LeftOwn.left (h:LeftOwn R0 w0 R w b p ab n cb ag cg ad cd V B G D):LeftAt R w b p B V G D:=by
 refine⟨ab,cb,ag,cg,ad,cd,by rw[h.bl,h.dl];exact h.box,h.nb,by rw[h.bl];exact h.bor.free,⟨ag,cg,rfl,h.vm,fun i hi=>?_⟩,by rw[h.dl];exact h.dar.free⟩
 obtain⟨g,e,_,hR,hc,_⟩:=h.gon.headAt (i:=i) (by rw[boolV_length];exact hi)
 rw[boolV_at G hi] at hc
 exact⟨g,0,e,hR,by rw[Nat.zero_add];exact hc⟩
theorem LeftOwn.beside (h:LeftOwn R0 w0 R w b p ab n cb ag cg ad cd V B G D) {row:Option Nat} (hev:Ev R0 w0 R w') (hg:w.grownBy w' row) (k0:row≠some b) (k1:(Value.slice ab n cb).ownBlock=none∨(Value.slice ab n cb).ownBlock≠row) (k2:(Value.slice ag V cg).ownBlock=none∨(Value.slice ag V cg).ownBlock≠row) (k3:(Value.slice ad V cd).ownBlock=none∨(Value.slice ad V cd).ownBlock≠row):
  LeftOwn R0 w0 R w' b p ab n cb ag cg ad cd V B G D:=
 ⟨hev,h.lo,h.nb,(hg.block b (lt_of_block h.box) (fun e=>k0 e.symm)).trans h.box,h.bor.kept hg k1,h.bl,h.gon.kept hg k2,h.dar.kept hg k3,h.dl,h.vm,h.d1,h.d2,h.d3,h.d4,h.d5,h.d6⟩
theorem LeftOwn.mark (h:LeftOwn R0 w0 R w b p ab n cb ag cg ad cd V B G D) {g:Nat} (hg:ag=some ⟨g,0,none⟩) (v:Nat):
  LeftOwn R0 w0 R (w.setCell ⟨g,v,none⟩ (.bool true)) b p ab n cb ag cg ad cd V B (fun i=>if i=v then true else G i) D:=by
 subst hg
 have hb:b≠g:=fun e=>h.d2 (by simp[Value.ownBlock,e])
 refine⟨h.ev.setCell (p:=⟨g,v,none⟩) (h.gon.lt g rfl).1 (h.gon.2 g rfl) _,h.lo,h.nb,by rw[Below.heap_setCell _ _ _ _ hb];exact h.box,h.bor.setCell (fun e=>h.d4 g e rfl) _,h.bl,?_,h.dar.setCell (fun e=>h.d6 g rfl e) _,h.dl,h.vm,h.d1,h.d2,h.d3,h.d4,h.d5,h.d6⟩
 rw[←boolV_set]
 exact h.gon.put v _
theorem LeftOwn.dart (h:LeftOwn R0 w0 R w b p ab n cb ag cg ad cd V B G D) {g:Nat} (hg:ad=some ⟨g,0,none⟩) {v:Nat} (hv:v<V) (d:Int):
  LeftOwn R0 w0 R (w.setCell ⟨g,v,none⟩ (.int .i64 d)) b p ab n cb ag cg ad cd V B G (D.set v d):=by
 subst hg
 have hb:b≠g:=fun e=>h.d3 (by simp[Value.ownBlock,e])
 exact⟨h.ev.setCell (p:=⟨g,v,none⟩) (h.dar.lt g rfl).1 (h.dar.2 g rfl) _,h.lo,h.nb,by rw[Below.heap_setCell _ _ _ _ hb];exact h.box,h.bor.setCell (fun e=>h.d5 g e rfl) _,h.bl,h.gon.setCell (fun e=>h.d6 g e rfl) _,h.dar.put h.dl v hv d,by rw[List.length_set];exact h.dl,h.vm,h.d1,h.d2,h.d3,h.d4,h.d5,h.d6⟩
theorem LeftOwn.replaced (h:LeftOwn R0 w0 R w b p ab n cb ag cg ad cd V B G D) (hev:Ev R0 w0 R w') (hg:w.grownBy w' (Value.slice ab n cb).ownBlock) {a2:Option Addr} {n2 c2:Nat} {B2:List Int} (ho:OwnI R w0.heap.size 3 w' (.slice a2 n2 c2) B2) (hl:B2.length=n2)
  (hs:∀ k,(Value.slice a2 n2 c2).ownBlock=some k→(Value.slice ab n cb).ownBlock=some k∨w.heap.size≤k):
  LeftOwn R0 w0 R (w'.setCell ⟨b,1,none⟩ (.slice a2 n2 c2)) b p a2 n2 c2 ag cg ad cd V B2 G D:=by
 have hb':w'.heap[b]?=some (.cells #[p,.slice ab n cb,.slice ag V cg,.slice ad V cd] 104 (0,0)):=(hg.block b (lt_of_block h.box) (fun e=>h.d1 e.symm)).trans h.box
 have hgk:(Value.slice ag V cg).ownBlock=none∨(Value.slice ag V cg).ownBlock≠(Value.slice ab n cb).ownBlock:=by
  cases e:(Value.slice ag V cg).ownBlock with
  | none=>exact .inl rfl
  | some k=>exact .inr (fun e2=>h.d4 k e2.symm e)
 have hdk:(Value.slice ad V cd).ownBlock=none∨(Value.slice ad V cd).ownBlock≠(Value.slice ab n cb).ownBlock:=by
  cases e:(Value.slice ad V cd).ownBlock with
  | none=>exact .inl rfl
  | some k=>exact .inr (fun e2=>h.d5 k e2.symm e)
 have new:∀ k,(Value.slice a2 n2 c2).ownBlock=some k→k≠b∧(Value.slice ag V cg).ownBlock≠some k∧(Value.slice ad V cd).ownBlock≠some k:=fun k hk=>by
  rcases hs k hk with q|q
  ·exact⟨fun e=>h.d1 (by rw[q,e]),h.d4 k q,h.d5 k q⟩
  ·have hbl:=lt_of_block h.box
   exact⟨by omega,fun e=>by have:=(h.gon.lt k e).2;omega,fun e=>by have:=(h.dar.lt k e).2;omega⟩
 refine⟨hev.setCell (p:=⟨b,1,none⟩) h.lo h.nb _,h.lo,h.nb,?_,ho.setCell (fun e=>(new b e).1 rfl) _,hl,(h.gon.kept hg hgk).setCell h.d2 _,(h.dar.kept hg hdk).setCell h.d3 _,h.dl,h.vm,fun e=>(new b e).1 rfl,h.d2,h.d3,fun k hk=>(new k hk).2.1,fun k hk=>(new k hk).2.2,h.d6⟩
 rw[heap_setCell_same _ _ _ _ _ _ hb']
 rfl
end
end
section
open Go.RowKit
set_option linter.unusedVariables false
set_option linter.unusedSimpArgs false
set_option linter.unusedSectionVars false
structure WoodOwn (R0:Reg) (w0:World) (R:Reg) (w:World) (b:Nat) (p:Value) (c0 c1 c2:Int) (ao:Option Addr) (n co:Nat) (ad:Option Addr) (k cd:Nat) (O D:List Int):Prop where
 ev:Ev R0 w0 R w
 lo:w0.heap.size≤b
 nb:R b=none
 box:w.heap[b]?=some (.cells #[p,.int .i64 c2,.int .i64 c0,.int .i64 c1,.slice ao n co,.slice ad k cd] 63 (0,0))
 out:OwnI R w0.heap.size 3 w (.slice ao n co) O
 ol:O.length=n
 dar:OwnI R w0.heap.size 3 w (.slice ad k cd) D
 dl:D.length=k
 d1:(Value.slice ao n co).ownBlock≠some b
 d2:(Value.slice ad k cd).ownBlock≠some b
 d3:∀ k',(Value.slice ao n co).ownBlock=some k'→(Value.slice ad k cd).ownBlock≠some k'
def WoodAt (R:Reg) (w:World) (b:Nat) (p:Value) (s:List Nat) (r:Nat) (O D:List Int):Prop:=
 ∃ ao co ad cd,w.heap[b]?=some (.cells #[p,.int .i64 (nth (namesL s) (at' (phiL s) (at' (phiL s) r))),.int .i64 (nth (namesL s) r),.int .i64 (nth (namesL s) (at' (phiL s) r)),.slice ao O.length co,.slice ad D.length cd] 63 (0,0))∧R b=none∧FreeI R w (.slice ao O.length co) O∧FreeI R w (.slice ad D.length cd) D
theorem WoodAt.ev {R R':Reg} {w w':World} {b:Nat} {p:Value} {s:List Nat} {r:Nat} {O D:List Int} (h:WoodAt R w b p s r O D) (he:Ev R w R' w'):WoodAt R' w' b p s r O D:=by
 obtain⟨ao,co,ad,cd,h1,h2,h3,h4⟩:=h
 exact⟨ao,co,ad,cd,(he.block b (lt_of_block h1) h2).trans h1,he.free b (lt_of_block h1) h2,h3.ev he,h4.ev he⟩
theorem WoodAt.reads {R:Reg} {w:World} {b:Nat} {p:Value} {s:List Nat} {r:Nat} {O D:List Int} (h:WoodAt R w b p s r O D):
  ∃ ao co ad cd,(∀ R' w',Ev R w R' w'→w'.cell? ⟨b,0,none⟩=some p∧w'.cell? ⟨b,1,none⟩=some (.int .i64 (nth (namesL s) (at' (phiL s) (at' (phiL s) r))))∧w'.cell? ⟨b,2,none⟩=some (.int .i64 (nth (namesL s) r))∧w'.cell? ⟨b,3,none⟩=some (.int .i64 (nth (namesL s) (at' (phiL s) r)))∧w'.cell? ⟨b,4,none⟩=some (.slice ao O.length co)∧w'.cell? ⟨b,5,none⟩=some (.slice ad D.length cd)) ∧
   (∀ i,i<O.length→∃ g off,ao=some ⟨g,off,none⟩∧∀ R' w',Ev R w R' w'→w'.cell? ⟨g,off+i,none⟩=some (.int .i64 (nth O i))) ∧
   (∀ i,i<D.length→∃ g off,ad=some ⟨g,off,none⟩∧∀ R' w',Ev R w R' w'→w'.cell? ⟨g,off+i,none⟩=some (.int .i64 (nth D i)))∧FreeI R w (.slice ao O.length co) O:=by
 obtain⟨ao,co,ad,cd,h1,h2,h3,h4⟩:=h
 refine⟨ao,co,ad,cd,fun R' w' he=>?_,fun i hi=>h3.later hi,fun i hi=>h4.later hi,h3⟩
 have hb:=(he.block b (lt_of_block h1) h2).trans h1
 exact⟨cells_at hb 0,cells_at hb 1,cells_at hb 2,cells_at hb 3,cells_at hb 4,cells_at hb 5⟩
section
variable {R0 R R' : Reg} {w0 w w' : World} {b : Nat} {p : Value} {c0 c1 c2 : Int} {ao ad : Option Addr} {n co k cd : Nat} {O D : List Int}
theorem WoodOwn.step (h:WoodOwn R0 w0 R w b p c0 c1 c2 ao n co ad k cd O D) (he:Ev R w R' w'):WoodOwn R0 w0 R' w' b p c0 c1 c2 ao n co ad k cd O D:=
 ⟨h.ev.trans he,h.lo,he.free b (lt_of_block h.box) h.nb,(he.block b (lt_of_block h.box) h.nb).trans h.box,h.out.ev he,h.ol,h.dar.ev he,h.dl,h.d1,h.d2,h.d3⟩
theorem WoodOwn.paint (h:WoodOwn R0 w0 R w b p c0 c1 c2 ao n co ad k cd O D) {g:Nat} (hg:ao=some ⟨g,0,none⟩) {i:Nat} (hi:i<n) (y:Int):
  WoodOwn R0 w0 R (w.setCell ⟨g,i,none⟩ (.int .i64 y)) b p c0 c1 c2 ao n co ad k cd (O.set i y) D:=by
 subst hg
 have hb:b≠g:=fun e=>h.d1 (by simp[Value.ownBlock,e])
 exact⟨h.ev.setCell (p:=⟨g,i,none⟩) (h.out.lt g rfl).1 (h.out.2 g rfl) _,h.lo,h.nb,by rw[Below.heap_setCell _ _ _ _ hb];exact h.box,h.out.put h.ol i hi y,by rw[List.length_set];exact h.ol,h.dar.setCell (fun e=>h.d3 g rfl e) _,h.dl,h.d1,h.d2,h.d3⟩
theorem WoodOwn.pushed (h:WoodOwn R0 w0 R w b p c0 c1 c2 ao n co ad k cd O D) (hev:Ev R0 w0 R w') (hg:w.grownBy w' (Value.slice ad k cd).ownBlock) {a2:Option Addr} {n2 c2':Nat} {D2:List Int} (ho:OwnI R w0.heap.size 3 w' (.slice a2 n2 c2') D2) (hl:D2.length=n2)
  (hs:∀ x,(Value.slice a2 n2 c2').ownBlock=some x→(Value.slice ad k cd).ownBlock=some x∨w.heap.size≤x):
  WoodOwn R0 w0 R (w'.setCell ⟨b,5,none⟩ (.slice a2 n2 c2')) b p c0 c1 c2 ao n co a2 n2 c2' O D2:=by
 have hb':w'.heap[b]?=some (.cells #[p,.int .i64 c2,.int .i64 c0,.int .i64 c1,.slice ao n co,.slice ad k cd] 63 (0,0)):=(hg.block b (lt_of_block h.box) (fun e=>h.d2 e.symm)).trans h.box
 have hgk:(Value.slice ao n co).ownBlock=none∨(Value.slice ao n co).ownBlock≠(Value.slice ad k cd).ownBlock:=by
  cases e:(Value.slice ao n co).ownBlock with
  | none=>exact .inl rfl
  | some x=>exact .inr (fun e2=>h.d3 x e e2.symm)
 have new:∀ x,(Value.slice a2 n2 c2').ownBlock=some x→x≠b∧(Value.slice ao n co).ownBlock≠some x:=fun x hk=>by
  rcases hs x hk with q|q
  ·exact⟨fun e=>h.d2 (by rw[q,e]),fun e=>h.d3 x e q⟩
  ·have hbl:=lt_of_block h.box
   exact⟨by omega,fun e=>by have:=(h.out.lt x e).2;omega⟩
 refine⟨hev.setCell (p:=⟨b,5,none⟩) h.lo h.nb _,h.lo,h.nb,?_,(h.out.kept hg hgk).setCell h.d1 _,h.ol,ho.setCell (fun e=>(new b e).1 rfl) _,hl,h.d1,fun e=>(new b e).1 rfl,fun x e1 e2=>(new x e2).2 e1⟩
 rw[heap_setCell_same _ _ _ _ _ _ hb']
 rfl
theorem WoodOwn.cells (h:WoodOwn R0 w0 R w b p c0 c1 c2 ao n co ad k cd O D):w.cell? ⟨b,0,none⟩=some p∧w.cell? ⟨b,1,none⟩=some (.int .i64 c2)∧w.cell? ⟨b,2,none⟩=some (.int .i64 c0)∧w.cell? ⟨b,3,none⟩=some (.int .i64 c1)∧w.cell? ⟨b,4,none⟩=some (.slice ao n co)∧w.cell? ⟨b,5,none⟩=some (.slice ad k cd)∧∀ o,w.frozen? ⟨b,o,none⟩=false:=
 ⟨cells_at h.box 0,cells_at h.box 1,cells_at h.box 2,cells_at h.box 3,cells_at h.box 4,cells_at h.box 5,fun o=>by simp[World.frozen?,h.box]⟩
theorem WoodOwn.at {s:List Nat} {r:Nat} (h:WoodOwn R0 w0 R w b p (nth (namesL s) r) (nth (namesL s) (at' (phiL s) r)) (nth (namesL s) (at' (phiL s) (at' (phiL s) r))) ao n co ad k cd O D):WoodAt R w b p s r O D:=
 ⟨ao,co,ad,cd,by rw[h.ol,h.dl];exact h.box,h.nb,by rw[h.ol];exact h.out.free,by rw[h.dl];exact h.dar.free⟩
end
theorem wof_nil (w:World):Calls Tryz.prog 34 #[.pointer none] w fun e w'=>e=.returned (.tuple #[.pointer none,.int .i64 2])∧w=w':=by
 have HC:=Lib.hid (corners_nil w)
 go_enter Tryz.func34,Tryz.ntmps34
 go_wp2_with fail
 refine HC.out.mono ?_
 rintro e w1 ⟨rfl,rfl⟩
 go_wp2_with fail
 go_ret2
 exact⟨rfl,rfl⟩
theorem wof_no (R:Reg) (w:World) (hI:Inv R w) (p:Value) (s:List Nat) (rt:Int) (lone:Nat) (hp:MapAt R p s rt lone) (h:triB s lone=false):
  Calls Tryz.prog 34 #[p] w (RetV R w (.tuple #[.pointer none,.int .i64 8])):=by
 have HC:=Lib.hid (corners_no R w hI p s rt lone hp h)
 obtain⟨b,rfl,hb⟩:=hp
 clear hb
 go_enter Tryz.func34,Tryz.ntmps34
 go_wp2_with fail
 refine HC.out.mono ?_
 rintro e w1 ⟨rfl,R1,he1⟩
 go_wp2_with fail
 go_ret2
 exact⟨rfl,R1,he1⟩
def FirstTo (s:List Nat) (d k:Nat) (D:List Int):Prop:=D.length=k∧(∀ v,v<k→∃ x:Nat,nth D v=(x:Int)∧x<d∧vtx s x=v)∧∀ x,x<d→vtx s x<k
theorem FirstTo.zero (s:List Nat):FirstTo s 0 0 []:=⟨rfl,fun v hv=>absurd hv (Nat.not_lt_zero _),fun x hx=>absurd hx (Nat.not_lt_zero _)⟩
section
variable {s : List Nat} (h : TriS s) {d k : Nat} {D : List Int} (hF : FirstTo s d k D) (hd : d < s.length)
include h hF hd
theorem FirstTo.le:vtx s d≤k:=by
 have ho:=namesL_ord h.perm
 rcases Nat.lt_or_ge k (vtx s d) with q|q
 ·exfalso
  have b:=ho.bound hd
  have e:=vtx_eq h.perm hd
  obtain⟨j,hj,ej,_⟩:=ho.has (k:=d+1) (by omega) k (by rw[e] at b;omega)
  have ej2:vtx s j=k:=by
   have:=vtx_eq h.perm (x:=j) (by omega)
   omega
  rcases Nat.lt_or_ge j d with w|w
  ·have:=hF.2.2 j w;omega
  ·have:j=d:=by omega
   rw[this] at ej2;omega
 ·exact q
theorem FirstTo.new (e:vtx s d=k):FirstTo s (d+1) (k+1) (D ++ [(d:Int)]):=by
 obtain⟨f1,f2,f3⟩:=hF
 refine⟨by simp[f1],fun v hv=>?_,fun x hx=>?_⟩
 ·rcases Nat.lt_or_ge v k with q|q
  ·obtain⟨x,x1,x2,x3⟩:=f2 v q
   refine⟨x,?_,by omega,x3⟩
   rw[←x1]
   unfold nth
   rw[List.getD_eq_getElem?_getD,List.getElem?_append_left (by omega)]
   rfl
  ·have:v=D.length:=by omega
   subst this
   exact⟨d,by simp[nth],by omega,by omega⟩
 ·rcases Nat.lt_or_ge x d with q|q
  ·have:=f3 x q;omega
  ·have:x=d:=by omega
   rw[this];omega
theorem FirstTo.old (e:vtx s d≠k):FirstTo s (d+1) k D:=by
 have l:=FirstTo.le h hF hd
 obtain⟨f1,f2,f3⟩:=hF
 refine⟨f1,fun v hv=>?_,fun x hx=>?_⟩
 ·obtain⟨x,x1,x2,x3⟩:=f2 v hv
  exact⟨x,x1,by omega,x3⟩
 ·rcases Nat.lt_or_ge x d with q|q
  ·exact f3 x q
  ·have:x=d:=by omega
   rw[this];omega
end
theorem FirstTo.all {s:List Nat} (h:TriS s) {k:Nat} {D:List Int} (hF:FirstTo s s.length k D):DartsOf s D∧k=(sizesL s).length:=by
 obtain⟨f1,f2,f3⟩:=hF
 have e:k=(sizesL s).length:=by
  rcases Nat.lt_trichotomy k (sizesL s).length with q|q|q
  ·obtain⟨x,hx,e⟩:=h.named q
   have:=f3 x hx
   have:=vtx_eq h.perm hx
   omega
  ·exact q
  ·obtain⟨x,_,x2,x3⟩:=f2 (sizesL s).length q
   have:=vtx_lt h.perm x2
   omega
 refine⟨⟨by omega,fun v hv=>?_⟩,e⟩
 obtain⟨x,x1,x2,x3⟩:=f2 v (by omega)
 exact⟨x,x1,x2,x3⟩
def RetWof (R:Reg) (w:World) (p:Value) (s:List Nat) (r:Nat) (e:Ending) (w':World):Prop:=
 ∃ b R' ao co ad k cd D,e=.returned (.tuple #[.pointer (some ⟨b,0,none⟩),.int .i64 0])∧DartsOf s D ∧
  WoodOwn R w R' w' b p (nth (namesL s) r) (nth (namesL s) (at' (phiL s) r)) (nth (namesL s) (at' (phiL s) (at' (phiL s) r))) ao s.length co ad k cd (List.replicate s.length (-1)) D
set_option maxRecDepth 100000 in
set_option maxHeartbeats 4000000 in
theorem wof_tri (R:Reg) (w:World) (hI:Inv R w) (p:Value) (s:List Nat) (r:Nat) (hp:MapAt R p s (r:Int) 0) (h:TriS s) (hr:r<s.length):
  Calls Tryz.prog 34 #[p] w (RetWof R w p s r):=by
 have HC:=Lib.hid (corners_tri R w hI p s r hp h hr)
 have HI:=Lib.hid hI
 have HP:=Lib.hid hp
 obtain⟨hS,hok⟩:=hp.ok hI
 obtain⟨b,rfl,hb⟩:=hp
 clear hb
 go_enter Tryz.func34,Tryz.ntmps34
 go_wp2_with fail
 refine HC.out.mono ?_
 rintro e w1 ⟨v1,R1,rfl,he1,ho1⟩
 obtain⟨a1,cc1,rfl,_⟩:=ho1.ints.open
 have hcl:(cor3 s r).length=3:=rfl
 rw[hcl] at ho1 ⊢
 obtain⟨g1,rfl,-,-,-,-⟩:=ho1.headAt hcl (i:=0) (by omega)
 have hX:∀ R' w',Ev R1 w1 R' w'→w'.cell? ⟨g1,0,none⟩=some (.int .i64 (nth (namesL s) r))∧w'.cell? ⟨g1,1,none⟩=some (.int .i64 (nth (namesL s) (at' (phiL s) r)))∧w'.cell? ⟨g1,2,none⟩=some (.int .i64 (nth (namesL s) (at' (phiL s) (at' (phiL s) r)))):=fun R' w' he=>by
  have k:=ho1.ev he
  obtain⟨g,e,-,-,z0,-⟩:=k.headAt hcl (i:=0) (by omega)
  cases e
  obtain⟨g,e,-,-,z1,-⟩:=k.headAt hcl (i:=1) (by omega)
  cases e
  obtain⟨g,e,-,-,z2,-⟩:=k.headAt hcl (i:=2) (by omega)
  cases e
  exact⟨z0,z1,z2⟩
 have hDn:=fun R' w' (he:Ev R1 w1 R' w')=>darts_any R' w' he.inv _ s (r:Int) 0 ((he1.trans he).map HP.out)
 have HDn:=Lib.hid hDn
 have hRp:=fun R' w' (hI:Inv R' w') v (hv:Ints w' v [(-1:Int)])=>repeat_one R' w' hI v (-1) hv s.length (by have:=hok.2.1;omega)
 have HRp:=Lib.hid hRp
 obtain⟨e0,he0⟩:∃ c0,nth (namesL s) r=c0:=⟨_,rfl⟩
 obtain⟨e1,he1'⟩:∃ c0,nth (namesL s) (at' (phiL s) r)=c0:=⟨_,rfl⟩
 obtain⟨e2,he2⟩:∃ c0,nth (namesL s) (at' (phiL s) (at' (phiL s) r))=c0:=⟨_,rfl⟩
 unfold RetWof
 rw[he0,he1',he2] at hX ⊢
 have HC0:=Lib.hid (⟨he0,he1',he2⟩:nth (namesL s) r=e0∧nth (namesL s) (at' (phiL s) r)=e1∧nth (namesL s) (at' (phiL s) (at' (phiL s) r))=e2)
 have HX:=Lib.hid hX
 have HI1:=Lib.hid he1.inv
 have HE1:=Lib.hid he1
 have HEa:=Lib.hid (Ev.refl he1.inv).drew
 have HEb:=Lib.hid ((Ev.refl he1.inv).alloc (.cells #[.int .i64 (-1)] 3))
 have HEc:=Lib.hid ((Ev.refl he1.inv).alloc (.cells #[.int .i64 (-1)] 3)).drew
 clear ho1 he1 hX hDn hRp he0 he1' he2
 have z0:=HX.out _ _ HEa.out
 go_wp2_with fail
 go_cut [6] (fun s6 wx=>∃ (wn:World) (bx:Nat) (a6:Option Addr) (c6:Nat),wn=wx∧s6=.pointer (some ⟨bx,0,none⟩)∧WoodOwn R w R1 wn bx (.pointer (some ⟨b,0,none⟩)) e0 e1 e2 a6 s.length c6 none 0 0 (List.replicate s.length (-1)) [])
 case first=>
  go_region_held3 (fun w'=>w'.cell? ⟨g1,0,none⟩=some (.int .i64 e0)∧w'.cell? ⟨g1,1,none⟩=some (.int .i64 e1)∧w'.cell? ⟨g1,2,none⟩=some (.int .i64 e2)) (first|exact z0|exact HX.out _ _ HEb.out|exact HX.out _ _ HEc.out|exact HY.out|exact HX.out _ _ (HE6.out.alloc _)) (first|(go_at_call 36;first|(refine (HDn.out _ _ HEa.out).mono ?_;rintro e w6 ⟨rfl,rfl⟩)|(refine (HDn.out _ _ HEc.out).mono ?_;rintro e w6 ⟨rfl,rfl⟩) |(refine (HDn.out _ _ HEb.out).mono ?_;rintro e w6 ⟨rfl,rfl⟩))|(go_at_call 64;refine (HRp.out _ _ HEc.out.inv _ (Ints.alone w1 (-1))).mono ?_;rintro e w6 ⟨v6,rfl,he6,ho6⟩;obtain⟨a6,c6,rfl,-⟩:=ho6.ints.open;rw[List.length_replicate] at ho6 ⊢;have HE6:=Lib.hid (HEc.out.trans he6);have HO6:=Lib.hid (ho6.mono (show w.heap.size≤_ from (HE1.out.trans HEc.out).size));have HY:=Lib.hid (HX.out _ _ HE6.out);clear he6 ho6))
  all_goals
   go_wp2_with fail
   go_meet
   exact⟨_,w6.heap.size,a6,c6,rfl,rfl,(HE1.out.trans HE6.out).alloc _,(HE1.out.trans HE6.out).size,HE6.out.inv.none_of_ge (Nat.le_refl _),heap_alloc_new w6 _,HO6.out.alloc _,by simp,OwnI.nil _ _ _ _,rfl,fun e=>by have:=(HO6.out.lt _ e).2;omega,by simp[Value.ownBlock],by simp[Value.ownBlock]⟩
 case rest=>
  obtain⟨wx,bx,a6,c6,rfl,rfl,hw⟩:=hcut
  have HW:=Lib.hid hw
  have HVx:=Lib.hid (fun R' w' (he:Ev R w R' w') (d:Nat) (hd:d<s.length)=>by
   have:=vertex_any R' w' he.inv _ s (r:Int) 0 (he.map HP.out) (d:Int)
   rwa [nameI_in hd,vtx_eq hS hd] at this)
  have HDm:=Lib.hid (fun R' w' (he:Ev R w R' w')=>darts_any R' w' he.inv _ s (r:Int) 0 (he.map HP.out))
  have HT:=Lib.hid h
  have hNb:=hok.2.1
  obtain⟨N,hN⟩:∃ N,s.length=N:=⟨_,rfl⟩
  have HNe:=Lib.hid hN
  rw[hN] at HW HVx HDm hNb
  clear hw HX HDn HRp HEa HEb HEc z0 hcl hok h hr hN HC hI HI1
  go_wp2_with fail
  refine (HDm.out _ _ HW.out.ev).mono ?_
  rintro e w2 ⟨rfl,rfl⟩
  go_wp2_with fail
  go_loopg [7,36] N (fun g v7 v36 wr=>∃ (d k cd:Nat) (ad:Option Addr) (D:List Int) (R7:Reg),d≤N∧N-d≤g∧v7=.int .i64 (k:Int)∧v36=.int .i64 (d:Int)∧FirstTo s d k D∧WoodOwn R w R7 wr bx (.pointer (some ⟨b,0,none⟩)) e0 e1 e2 a6 N c6 ad k cd (List.replicate N (-1)) D)
  case atStart=>exact⟨0,0,0,none,[],R1,Nat.zero_le _,by omega,rfl,rfl,FirstTo.zero s,HW.out⟩
  case round=>
   obtain⟨d,k,cd,ad,D,R7,hd,hg,rfl,rfl,hf,hw⟩:=hrel
   have HF:=Lib.hid hf
   have HW7:=Lib.hid hw
   clear hf hw
   by_cases hdN:d<N
   ·have HV1:=Lib.hid (HVx.out _ _ HW7.out.ev d hdN)
    have hdl:d<s.length:=by rw[HNe.out];exact hdN
    obtain⟨va,hva⟩:∃ x,vtx s d=x:=⟨_,rfl⟩
    rw[hva] at HV1
    have HVa:=Lib.hid hva
    clear hva
    go_wp2_with fail
    refine HV1.out.mono ?_
    rintro e w8 ⟨rfl,R8,he8⟩
    have HW8:=Lib.hid (HW7.out.step he8)
    clear he8
    by_cases hk:va=k
    ·have hb:((va:Int) == (k:Int))=true:=beq_iff_eq.2 (by omega)
     have HF2:=Lib.hid (FirstTo.new HT.out HF.out hdl (HVa.out.trans hk))
     have hfl:=HF.out.1
     have HDl:=Lib.hid hfl
     have hkN:k≤N:=by
      have:=vtx_lt HT.out.perm hdl
      have:=sizesL_le HT.out.perm
      have:=HVa.out
      have:=HNe.out
      omega
     have hfz:=HW8.out.cells.2.2.2.2.2.2 5
     have z5:=HW8.out.cells.2.2.2.2.2.1
     have hlb:bx<w8.heap.size:=lt_of_block HW8.out.box
     have HWa:=Lib.hid (HW8.out.step ((Ev.refl HW8.out.ev.inv).alloc (.cells #[.int .i64 (d:Int)] 3)))
     clear hfl
     go_wp2_with (at_builtin;refine wpList_app_ints (R:=R8) (B:=w.heap.size) rfl _ _ rfl HWa.out.dar rfl ⟨w8.heap.size,0,none⟩ 1 1 [(d:Int)] rfl ?a0 ?a1 ?a2 ?a3 ?a4 ?_)
     try (case a0=>first|rfl|simp)
     case a1=>
      intro j hj
      match j,hj with
      | 0,_=>simp[Addr.add,nth]
     case a2=>rw[HDl.out];omega
     case a3=>have:=HW8.out.ev.size;first|omega|(simp;omega)
     case a4=>exact fun q hq=>HWa.out.ev.inv.none_of_ge (by first|(simp;omega)|(simp at hq ⊢;omega))
     intro v9 w9 ho9 hg9 hs9
     obtain⟨a9,c9,rfl,-⟩:=ho9.ints.open
     have hl9:(D ++ [(d:Int)]).length=k+1:=by rw[List.length_append,HDl.out];rfl
     rw[hl9] at ho9 hs9 ⊢
     have HW9:=Lib.hid (HWa.out.pushed (HWa.out.ev.app HWa.out.dar (Nat.le_refl _) hg9) hg9 ho9 hl9 (by simpa using hs9))
     have hb9:w9.heap[bx]?=some (.cells #[.pointer (some ⟨b,0,none⟩),.int .i64 e2,.int .i64 e0,.int .i64 e1,.slice a6 N c6,.slice ad k cd] 63 (0,0)):=(hg9.block bx (lt_of_block HWa.out.box) (fun e=>HWa.out.d2 e.symm)).trans HWa.out.box
     have y5:=cells_at hb9 5
     have hfz2:w9.frozen? ⟨bx,5,none⟩=false:=by simp[World.frozen?,hb9]
     clear ho9 hg9 hs9 hl9 hb9 hfz z5
     have hw1:IntKind.i64.wrap ((k:Int)+1)=((k+1:Nat):Int):=by rw[show (k:Int)+1=((k+1:Nat):Int) by omega];exact IntWalk.i64_in _ (by omega)
     go_wp2_with fail
     go_roundg (N-(d+1))
     case measure=>omega
     case rel=>exact⟨d+1,k+1,c9,a9,D ++ [(d:Int)],R8,by omega,by omega,by go_num,by go_num,HF2.out,HW9.out⟩
    ·have hb:((va:Int) == (k:Int))=false:=beq_eq_false_iff_ne.2 (by omega)
     have HF2:=Lib.hid (FirstTo.old HT.out HF.out hdl (by rw[HVa.out];exact hk))
     clear hk
     go_wp2_with fail
     go_roundg (N-(d+1))
     case measure=>omega
     case rel=>exact⟨d+1,k,cd,ad,D,R8,by omega,by omega,rfl,by go_num,HF2.out,HW8.out⟩
   ·obtain rfl:N=d:=by omega
    have HA:Hid (DartsOf s D∧k=(sizesL s).length):=Lib.hid (FirstTo.all HT.out (by rw[HNe.out];exact HF.out))
    go_wp2_with fail
    go_ret2
    exact⟨bx,R7,a6,c6,ad,k,cd,D,rfl,HA.out.1,by rw[HNe.out,HC0.out.1,HC0.out.2.1,HC0.out.2.2];exact HW7.out⟩
end
section
open Go.RowKit
set_option linter.unusedVariables false
set_option linter.unusedSimpArgs false
def CorAt (w:World) (b:Nat) (e0 e1 e2:Int):Prop:=w.cell? ⟨b,1,none⟩=some (.int .i64 e2)∧w.cell? ⟨b,2,none⟩=some (.int .i64 e0)∧w.cell? ⟨b,3,none⟩=some (.int .i64 e1)
theorem wcorner_any (w:World) (b:Nat) (e0 e1 e2 v:Int) (h:CorAt w b e0 e1 e2) (c:Bool) (hc:decide (v∈[e2,e0,e1])=c):
  Calls Tryz.prog 91 #[.pointer (some ⟨b,0,none⟩),.int .i64 v] w fun e w'=>w'=w∧e=.returned (.bool c):=by
 obtain⟨h1,h2,h3⟩:=h
 have hI:Ints w (.slice (some ⟨b,1,none⟩) 3 3) [e2,e0,e1]:=⟨some ⟨b,1,none⟩,3,rfl,Nat.le_refl _,by decide,fun i hi=>⟨b,1,rfl,by
  match i,hi with
  | 0,_=>exact h1
  | 1,_=>exact h2
  | 2,_=>exact h3⟩⟩
 have hC:=contains_any w _ 3 3 _ v hI (by omega)
 rw[hc] at hC
 have HC:=Lib.hid hC
 clear hI h1 h2 h3 hC hc
 go_enter Tryz.func91,Tryz.ntmps91
 go_wp2_with fail
 refine HC.out.mono ?_
 rintro e w' ⟨rfl,rfl⟩
 go_wp2_with fail
 go_ret
 exact⟨rfl,rfl⟩
def WoodBox (R:Reg) (w:World) (b:Nat) (p:Value) (s:List Nat) (r:Nat):Prop:=∀ R' w',Ev R w R' w'→w'.cell? ⟨b,0,none⟩=some p∧CorAt w' b (nth (namesL s) r) (nth (namesL s) (at' (phiL s) r)) (nth (namesL s) (at' (phiL s) (at' (phiL s) r)))
theorem WoodOwn.wbox {R0 R:Reg} {w0 w:World} {b:Nat} {p:Value} {s:List Nat} {r:Nat} {ao ad:Option Addr} {n co k cd:Nat} {O D:List Int} (h:WoodOwn R0 w0 R w b p (nth (namesL s) r) (nth (namesL s) (at' (phiL s) r)) (nth (namesL s) (at' (phiL s) (at' (phiL s) r))) ao n co ad k cd O D):WoodBox R w b p s r:=fun R' w' he=>by
 have hb:=(he.block b (lt_of_block h.box) h.nb).trans h.box
 exact⟨cells_at hb 0,cells_at hb 1,cells_at hb 2,cells_at hb 3⟩
theorem cornZ_mem {s:List Nat} {r x:Nat}:decide (nth (namesL s) x∈[nth (namesL s) (at' (phiL s) (at' (phiL s) r)),nth (namesL s) r,nth (namesL s) (at' (phiL s) r)])=cornZ s r x:=by
 unfold cornZ
 rw[Bool.eq_iff_iff]
 simp only[List.mem_cons,List.not_mem_nil,or_false,decide_eq_true_eq,Bool.or_eq_true,beq_iff_eq]
 constructor
 ·rintro (e|e|e)
  ·exact .inr e
  ·exact .inl (.inl e)
  ·exact .inl (.inr e)
 ·rintro ((e|e)|e)
  ·exact .inr (.inl e)
  ·exact .inr (.inr e)
  ·exact .inl e
set_option maxRecDepth 100000 in
set_option maxHeartbeats 1000000 in
theorem wouter_any (R:Reg) (w:World) (hI:Inv R w) (p:Value) (s:List Nat) (r:Nat) (hp:MapAt R p s (r:Int) 0) (h:TriS s) (b:Nat) (hB:WoodBox R w b p s r) (x:Nat) (hx:x<s.length):
  Calls Tryz.prog 70 #[.pointer (some ⟨b,0,none⟩),.int .i64 (x:Int)] w (RetV R w (.bool (outZ s r x))):=by
 have HMt:=Lib.hid (fun R' w' (he:Ev R w R' w') (d:Nat) (hd:d<s.length)=>by
  have:=mate_any R' w' he.inv p s (r:Int) 0 (he.map hp) d
  rwa [mateI_in hd] at this)
 have HVx:=Lib.hid (fun R' w' (he:Ev R w R' w') (d:Nat) (hd:d<s.length)=>by
  have:=vertex_any R' w' he.inv p s (r:Int) 0 (he.map hp) (d:Int)
  rwa [nameI_in hd] at this)
 have HCo:=Lib.hid (fun R' w' (he:Ev R w R' w') (d:Nat)=>by
  exact wcorner_any w' b _ _ _ (nth (namesL s) d) (hB R' w' he).2 (cornZ s r d) cornZ_mem)
 have HB0:=Lib.hid (fun R' w' (he:Ev R w R' w')=>(hB R' w' he).1)
 have HI:=Lib.hid hI
 have hm:=xor_one_lt h.even hx
 unfold outZ
 obtain⟨bp,rfl,hbp⟩:=hp
 clear hbp hB hI
 have HVa:=Lib.hid (HVx.out _ _ (Ev.refl HI.out).drew x hx)
 have HC1:=Lib.hid (fun R' w' (he:Ev R w R' w')=>HCo.out R' w' he x)
 have HC2:=Lib.hid (fun R' w' (he:Ev R w R' w')=>HCo.out R' w' he (x ^^^ 1))
 have HM1:=Lib.hid (fun R' w' (he:Ev R w R' w')=>HMt.out R' w' he x hx)
 have HV2:=Lib.hid (fun R' w' (he:Ev R w R' w')=>HVx.out R' w' he (x ^^^ 1) hm)
 have HEd:=Lib.hid (Ev.refl HI.out).drew
 obtain⟨y,hy⟩:∃ y,x ^^^ 1=y:=⟨_,rfl⟩
 rw[hy] at HC2 HM1 HV2 ⊢
 obtain⟨k1,hk1⟩:∃ k,cornZ s r x=k:=⟨_,rfl⟩
 obtain⟨k2,hk2⟩:∃ k,cornZ s r y=k:=⟨_,rfl⟩
 obtain⟨v1,hv1⟩:∃ k,nth (namesL s) x=k:=⟨_,rfl⟩
 obtain⟨v2,hv2⟩:∃ k,nth (namesL s) y=k:=⟨_,rfl⟩
 rw[hk1,hv1] at HC1
 rw[hk2,hv2] at HC2
 rw[hv1] at HVa
 rw[hv2] at HV2
 rw[hk1,hk2]
 clear hk1 hk2 hv1 hv2 hy hm hx h HVx HCo HMt
 go_enter Tryz.func70,Tryz.ntmps70
 go_wp2_with fail
 cases k1
 ·as_aux_lemma=>
   refine wp_region_held_drew (S:=fun W=>W.cell? ⟨b,0,none⟩=some (.pointer (some ⟨bp,0,none⟩))) (by kernel_rfl) (HB0.out _ _ HEd.out) (fun hHeld=>?_)
   refine tk 0 (v:=?ft1) ?gt1 ?_
   case gt1=>(intro w' s0;go_simp;try with_reducible rfl)
   try simp only[Act.put,rd]
   refine tk 1 (v:=?ft2) ?gt2 ?_
   case gt2=>(intro w' s0;go_simp;try with_reducible rfl)
   try simp only[Act.put,rd]
   refine tk 2 (v:=?ft3) ?gt3 ?_
   case gt3=>(intro w' s0;go_simp;try with_reducible rfl)
   try simp only[Act.put,rd]
   refine tk 3 (v:=?ft4) ?gt4 ?_
   case gt4=>(intro w' s0;go_simp;try with_reducible rfl)
   try simp only[Act.put,rd]
   refine tk 4 (v:=?ft5) ?gt5 ?_
   case gt5=>(intro w' s0;go_simp;try with_reducible rfl)
   try simp only[Act.put,rd]
   refine tk 5 (v:=?ft6) ?gt6 ?_
   case gt6=>(intro w' s0;go_simp;try with_reducible rfl)
   try simp only[Act.put,rd]
   refine nx 6 fun K hK=>?_
   go_simp
   refine HVa.out.mono ?_
   rintro e w3 ⟨rfl,R3,he3⟩
   have HE3:=Lib.hid (HEd.out.trans he3)
   clear he3
   go_simp
   refine hK.out _ _ (HB0.out _ _ HE3.out) (fun hHeld2=>?_)
   clear hHeld
   refine nx 7 fun K hK=>?_
   go_simp
   refine (HC1.out _ _ HE3.out).mono ?_
   rintro e w4 ⟨rfl,rfl⟩
   go_simp
   refine hK.out _ _ (HB0.out _ _ HE3.out) (fun hHeld3=>?_)
   clear hHeld2
   refine tk 8 (v:=?ft7) ?gt7 ?_
   case gt7=>(intro w' s0;go_simp;try with_reducible rfl)
   try simp only[Act.put,rd]
   refine sk 9 ?_
   try simp only[Act.put,rd]
   refine sk 10 ?_
   try simp only[Act.put,rd]
   refine sk 11 ?_
   try simp only[Act.put,rd]
   refine sk 12 ?_
   try simp only[Act.put,rd]
   refine sk 13 ?_
   try simp only[Act.put,rd]
   refine sk 14 ?_
   try simp only[Act.put,rd]
   refine sk 15 ?_
   try simp only[Act.put,rd]
   refine sk 16 ?_
   try simp only[Act.put,rd]
   refine sk 17 ?_
   try simp only[Act.put,rd]
   refine sk 18 ?_
   try simp only[Act.put,rd]
   refine sk 19 ?_
   try simp only[Act.put,rd]
   refine sk 20 ?_
   try simp only[Act.put,rd]
   refine sk 21 ?_
   try simp only[Act.put,rd]
   refine tk 22 (v:=?ft8) ?gt8 ?_
   case gt8=>(intro w' s0;go_simp;try with_reducible rfl)
   try simp only[Act.put,rd]
   refine tk 23 (v:=?ft9) ?gt9 ?_
   case gt9=>(intro w' s0;go_simp;try with_reducible rfl)
   try simp only[Act.put,rd]
   refine wpAnyH_done (by kernel_rfl) ?_ _
   go_wp2_with fail
   go_ret
   exact⟨rfl,R3,HE3.out⟩
 ·as_aux_lemma=>
   refine wp_region_held_drew (S:=fun W=>W.cell? ⟨b,0,none⟩=some (.pointer (some ⟨bp,0,none⟩))) (by kernel_rfl) (HB0.out _ _ HEd.out) (fun hHeld=>?_)
   refine tk 0 (v:=?ft10) ?gt10 ?_
   case gt10=>(intro w' s0;go_simp;try with_reducible rfl)
   try simp only[Act.put,rd]
   refine tk 1 (v:=?ft11) ?gt11 ?_
   case gt11=>(intro w' s0;go_simp;try with_reducible rfl)
   try simp only[Act.put,rd]
   refine tk 2 (v:=?ft12) ?gt12 ?_
   case gt12=>(intro w' s0;go_simp;try with_reducible rfl)
   try simp only[Act.put,rd]
   refine tk 3 (v:=?ft13) ?gt13 ?_
   case gt13=>(intro w' s0;go_simp;try with_reducible rfl)
   try simp only[Act.put,rd]
   refine tk 4 (v:=?ft14) ?gt14 ?_
   case gt14=>(intro w' s0;go_simp;try with_reducible rfl)
   try simp only[Act.put,rd]
   refine tk 5 (v:=?ft15) ?gt15 ?_
   case gt15=>(intro w' s0;go_simp;try with_reducible rfl)
   try simp only[Act.put,rd]
   refine nx 6 fun K hK=>?_
   go_simp
   refine HVa.out.mono ?_
   rintro e w3 ⟨rfl,R3,he3⟩
   have HE3:=Lib.hid (HEd.out.trans he3)
   clear he3
   go_simp
   refine hK.out _ _ (HB0.out _ _ HE3.out) (fun hHeld2=>?_)
   clear hHeld
   refine nx 7 fun K hK=>?_
   go_simp
   refine (HC1.out _ _ HE3.out).mono ?_
   rintro e w4 ⟨rfl,rfl⟩
   go_simp
   refine hK.out _ _ (HB0.out _ _ HE3.out) (fun hHeld3=>?_)
   clear hHeld2
   refine tk 8 (v:=?ft16) ?gt16 ?_
   case gt16=>(intro w' s0;go_simp;try with_reducible rfl)
   try simp only[Act.put,rd]
   refine tk 9 (v:=?ft17) ?gt17 ?_
   case gt17=>(intro w' s0;go_simp;try with_reducible rfl)
   try simp only[Act.put,rd]
   refine tk 10 (v:=?ft18) ?gt18 ?_
   case gt18=>(intro w' s0;go_simp;try with_reducible rfl)
   try simp only[Act.put,rd]
   refine tk 11 (v:=?ft19) ?gt19 ?_
   case gt19=>(intro w' s0;go_simp;try with_reducible rfl)
   try simp only[Act.put,rd]
   refine tk 12 (v:=?ft20) ?gt20 ?_
   case gt20=>(intro w' s0;go_simp;try with_reducible rfl)
   try simp only[Act.put,rd]
   refine tk 13 (v:=?ft21) ?gt21 ?_
   case gt21=>(intro w' s0;go_simp;try with_reducible rfl)
   try simp only[Act.put,rd]
   refine tk 14 (v:=?ft22) ?gt22 ?_
   case gt22=>(intro w' s0;go_simp;try with_reducible rfl)
   try simp only[Act.put,rd]
   refine tk 15 (v:=?ft23) ?gt23 ?_
   case gt23=>(intro w' s0;go_simp;try with_reducible rfl)
   try simp only[Act.put,rd]
   refine tk 16 (v:=?ft24) ?gt24 ?_
   case gt24=>(intro w' s0;go_simp;try with_reducible rfl)
   try simp only[Act.put,rd]
   refine tk 17 (v:=?ft25) ?gt25 ?_
   case gt25=>(intro w' s0;go_simp;try with_reducible rfl)
   try simp only[Act.put,rd]
   refine tk 18 (v:=?ft26) ?gt26 ?_
   case gt26=>(intro w' s0;go_simp;try with_reducible rfl)
   try simp only[Act.put,rd]
   refine nx 19 fun K hK=>?_
   go_simp
   refine (HM1.out _ _ HE3.out).mono ?_
   rintro e w5 ⟨rfl,rfl⟩
   go_simp
   refine hK.out _ _ (HB0.out _ _ HE3.out) (fun hHeld4=>?_)
   clear hHeld3
   refine nx 20 fun K hK=>?_
   go_simp
   refine (HV2.out _ _ HE3.out).mono ?_
   rintro e w6 ⟨rfl,R6,he6⟩
   have HE6:=Lib.hid (HE3.out.trans he6)
   clear he6
   go_simp
   refine hK.out _ _ (HB0.out _ _ HE6.out) (fun hHeld5=>?_)
   clear hHeld4
   refine nx 21 fun K hK=>?_
   go_simp
   refine (HC2.out _ _ HE6.out).mono ?_
   rintro e w7 ⟨rfl,rfl⟩
   go_simp
   refine hK.out _ _ (HB0.out _ _ HE6.out) (fun hHeld6=>?_)
   clear hHeld5
   refine tk 22 (v:=?ft27) ?gt27 ?_
   case gt27=>(intro w' s0;go_simp;try with_reducible rfl)
   try simp only[Act.put,rd]
   refine tk 23 (v:=?ft28) ?gt28 ?_
   case gt28=>(intro w' s0;go_simp;try with_reducible rfl)
   try simp only[Act.put,rd]
   refine wpAnyH_done (by kernel_rfl) ?_ _
   go_wp2_with fail
   go_ret
   exact⟨by simp,R6,HE6.out⟩
def EvCell (R:Reg) (w:World) (ao:Option Addr) (R':Reg) (w':World):Prop:=∃ w1,Ev R w R' w1∧(w'=w1∨∃ g i u,ao=some ⟨g,0,none⟩∧w'=w1.setCell ⟨g,i,none⟩ (.int .i64 u))
theorem EvCell.own {R R':Reg} {w w':World} {ao:Option Addr} (h:EvCell R w ao R' w') {B:Nat} {v:Value} {xs:List Int} (ho:OwnI R B 3 w v xs) (hne:∀ g,ao=some ⟨g,0,none⟩→v.ownBlock≠some g):OwnI R' B 3 w' v xs:=by
 obtain⟨w1,h1,rfl|⟨g,i,u,h2,rfl⟩⟩:=h
 ·exact ho.ev h1
 ·exact (ho.ev h1).setCell (hne g h2) _
set_option maxRecDepth 100000 in
set_option maxHeartbeats 1000000 in
theorem paint_any {R0 R:Reg} {w0 w:World} {b:Nat} {p:Value} {s:List Nat} {r:Nat} {ao ad:Option Addr} {n co k cd:Nat} {O D:List Int} (hw:WoodOwn R0 w0 R w b p (nth (namesL s) r) (nth (namesL s) (at' (phiL s) r)) (nth (namesL s) (at' (phiL s) (at' (phiL s) r))) ao n co ad k cd O D)
  (hp:MapAt R p s (r:Int) 0) (h:TriS s) (hn:s.length=n) (x:Nat) (hx:x<n) (c:Int):
  Calls Tryz.prog 45 #[.pointer (some ⟨b,0,none⟩),.int .i64 (x:Int),.int .i64 c] w fun e w'=>e=.returned (.tuple #[])∧∃ R',EvCell R w ao R' w'∧WoodOwn R0 w0 R' w' b p (nth (namesL s) r) (nth (namesL s) (at' (phiL s) r)) (nth (namesL s) (at' (phiL s) (at' (phiL s) r))) ao n co ad k cd (paintL s r O x c) D:=by
 have hO:=wouter_any R w hw.ev.inv p s r hp h b hw.wbox x (by omega)
 have HW:=Lib.hid hw
 unfold paintL
 obtain⟨k1,hk1⟩:∃ k,outZ s r x=k:=⟨_,rfl⟩
 rw[hk1] at hO ⊢
 have HO:=Lib.hid hO
 clear hw hp hO hk1
 cases k1
 ·go_enter Tryz.func45,Tryz.ntmps45
  go_wp2_with fail
  refine HO.out.mono ?_
  rintro e w1 ⟨rfl,R1,he1⟩
  have HW1:=Lib.hid (HW.out.step he1)
  have HE1:=Lib.hid he1
  obtain⟨g,rfl,-,-,hc1,hfz⟩:=HW1.out.out.headAt HW1.out.ol (i:=x) hx
  have z4:=HW1.out.cells.2.2.2.2.1
  clear he1
  go_wp2_with fail
  go_end0
  exact⟨rfl,R1,⟨w1,HE1.out,.inr ⟨g,x,c,rfl,rfl⟩⟩,HW1.out.paint rfl hx c⟩
 ·go_enter Tryz.func45,Tryz.ntmps45
  go_wp2_with fail
  refine HO.out.mono ?_
  rintro e w1 ⟨rfl,R1,he1⟩
  have HW1:=Lib.hid (HW.out.step he1)
  have HE1:=Lib.hid he1
  clear he1
  go_wp2_with fail
  go_end0
  exact⟨rfl,R1,⟨w1,HE1.out,.inl rfl⟩,HW1.out⟩
end
section
open Go.RowKit
set_option linter.unusedVariables false
set_option linter.unusedSimpArgs false
set_option linter.unusedSectionVars false
def EndBox (R:Reg) (w:World) (p:Value) (bl bw bv b gp off n c:Nat) (P:List Int) (v:Nat):Prop:=∀ R' w',Ev R w R' w'→w'.cell? ⟨bl,0,none⟩=some (.slice (some ⟨gp,off,none⟩) n c)∧w'.cell? ⟨bw,0,none⟩=some (.pointer (some ⟨b,0,none⟩))∧w'.cell? ⟨bv,0,none⟩=some (.int .i64 (v:Int))∧w'.cell? ⟨b,0,none⟩=some p∧∀ i,i<n→w'.cell? ⟨gp,off+i,none⟩=some (.int .i64 (nth P i))
set_option maxRecDepth 100000 in
set_option maxHeartbeats 2000000 in
theorem ends1_any (R:Reg) (w:World) (hI:Inv R w) (p:Value) (s:List Nat) (rt lone:Int) (hp:MapAt R p s rt lone) (h:TriS s) (bl bw bv b gp off n c:Nat) (P:List Int) (v:Nat) (hX:EndBox R w p bl bw bv b gp off n c P v) (hn:(sizesL s).length≤n) (hv:v<n) (x:Nat) (hx:x<s.length) (k:Bool) (hk:decide (nth P (vtx s (x ^^^ 1))<nth P v)=k):
  Calls Tryz.prog 80 #[.int .i64 (x:Int),.pointer (some ⟨bl,0,none⟩),.pointer (some ⟨bw,0,none⟩),.pointer (some ⟨bv,0,none⟩)] w (RetV R w (.bool k)):=by
 have hm:=xor_one_lt h.even hx
 have HMt:=Lib.hid (fun R' w' (he:Ev R w R' w')=>by
  have:=mate_any R' w' he.inv p s rt lone (he.map hp) (x:Int)
  rwa [mateI_in hx] at this)
 have HVx:=Lib.hid (fun R' w' (he:Ev R w R' w')=>by
  have:=vertex_any R' w' he.inv p s rt lone (he.map hp) ((x ^^^ 1:Nat):Int)
  rwa [nameI_in hm,vtx_eq h.perm hm] at this)
 have hu:=vtx_lt h.perm hm
 obtain⟨m,hme⟩:∃ m,x ^^^ 1=m:=⟨_,rfl⟩
 rw[hme] at HMt HVx hu hk
 obtain⟨u,hue⟩:∃ v,vtx s m=v:=⟨_,rfl⟩
 rw[hue] at HVx hu hk
 have hun:u<n:=by omega
 have HX:Hid (∀ R' w',Ev R w R' w'→w'.cell? ⟨bl,0,none⟩=some (.slice (some ⟨gp,off,none⟩) n c)∧w'.cell? ⟨bw,0,none⟩=some (.pointer (some ⟨b,0,none⟩))∧w'.cell? ⟨bv,0,none⟩=some (.int .i64 (v:Int))∧w'.cell? ⟨b,0,none⟩=some p∧w'.cell? ⟨gp,off+u,none⟩=some (.int .i64 (nth P u))∧w'.cell? ⟨gp,off+v,none⟩=some (.int .i64 (nth P v))):=Lib.hid fun R' w' he=>⟨(hX R' w' he).1,(hX R' w' he).2.1,(hX R' w' he).2.2.1,(hX R' w' he).2.2.2.1,(hX R' w' he).2.2.2.2 u hun,(hX R' w' he).2.2.2.2 v hv⟩
 obtain⟨y,hy⟩:∃ y,nth P u=y:=⟨_,rfl⟩
 obtain⟨z,hz⟩:∃ y,nth P v=y:=⟨_,rfl⟩
 rw[hy,hz] at HX hk
 have HI:=Lib.hid hI
 obtain⟨bp,rfl,-⟩:=hp
 clear hI hX hy hz hue hme hn hm hx h hu
 have HEd:=Lib.hid (Ev.refl HI.out).drew
 go_enter Tryz.func80,Tryz.ntmps80
 go_wp2_with fail
 refine wp_region_held_drew (S:=fun W=>W.cell? ⟨bl,0,none⟩=some (.slice (some ⟨gp,off,none⟩) n c)∧W.cell? ⟨bw,0,none⟩=some (.pointer (some ⟨b,0,none⟩))∧W.cell? ⟨bv,0,none⟩=some (.int .i64 (v:Int))∧W.cell? ⟨b,0,none⟩=some (.pointer (some ⟨bp,0,none⟩))∧W.cell? ⟨gp,off+u,none⟩=some (.int .i64 y)∧W.cell? ⟨gp,off+v,none⟩=some (.int .i64 z)) (by kernel_rfl) (HX.out _ _ HEd.out) (fun hHeld=>?_)
 refine tk 0 (v:=?ft1) ?gt1 ?_
 case gt1=>(intro w' ⟨s0,s1,s2,s3,s4,s5⟩;go_simp;try with_reducible rfl)
 try simp only[Act.put,rd]
 refine tk 1 (v:=?ft2) ?gt2 ?_
 case gt2=>(intro w' ⟨s0,s1,s2,s3,s4,s5⟩;go_simp;try with_reducible rfl)
 try simp only[Act.put,rd]
 refine tk 2 (v:=?ft3) ?gt3 ?_
 case gt3=>(intro w' ⟨s0,s1,s2,s3,s4,s5⟩;go_simp;try with_reducible rfl)
 try simp only[Act.put,rd]
 refine tk 3 (v:=?ft4) ?gt4 ?_
 case gt4=>(intro w' ⟨s0,s1,s2,s3,s4,s5⟩;go_simp;try with_reducible rfl)
 try simp only[Act.put,rd]
 refine tk 4 (v:=?ft5) ?gt5 ?_
 case gt5=>(intro w' ⟨s0,s1,s2,s3,s4,s5⟩;go_simp;try with_reducible rfl)
 try simp only[Act.put,rd]
 refine tk 5 (v:=?ft6) ?gt6 ?_
 case gt6=>(intro w' ⟨s0,s1,s2,s3,s4,s5⟩;go_simp;try with_reducible rfl)
 try simp only[Act.put,rd]
 refine tk 6 (v:=?ft7) ?gt7 ?_
 case gt7=>(intro w' ⟨s0,s1,s2,s3,s4,s5⟩;go_simp;try with_reducible rfl)
 try simp only[Act.put,rd]
 refine tk 7 (v:=?ft8) ?gt8 ?_
 case gt8=>(intro w' ⟨s0,s1,s2,s3,s4,s5⟩;go_simp;try with_reducible rfl)
 try simp only[Act.put,rd]
 refine tk 8 (v:=?ft9) ?gt9 ?_
 case gt9=>(intro w' ⟨s0,s1,s2,s3,s4,s5⟩;go_simp;try with_reducible rfl)
 try simp only[Act.put,rd]
 refine tk 9 (v:=?ft10) ?gt10 ?_
 case gt10=>(intro w' ⟨s0,s1,s2,s3,s4,s5⟩;go_simp;try with_reducible rfl)
 try simp only[Act.put,rd]
 refine tk 14 (v:=?ft11) ?gt11 ?_
 case gt11=>(intro w' ⟨s0,s1,s2,s3,s4,s5⟩;go_simp;try with_reducible rfl)
 try simp only[Act.put,rd]
 refine tk 15 (v:=?ft12) ?gt12 ?_
 case gt12=>(intro w' ⟨s0,s1,s2,s3,s4,s5⟩;go_simp;try with_reducible rfl)
 try simp only[Act.put,rd]
 refine tk 16 (v:=?ft13) ?gt13 ?_
 case gt13=>(intro w' ⟨s0,s1,s2,s3,s4,s5⟩;go_simp;try with_reducible rfl)
 try simp only[Act.put,rd]
 refine tk 17 (v:=?ft14) ?gt14 ?_
 case gt14=>(intro w' ⟨s0,s1,s2,s3,s4,s5⟩;go_simp;try with_reducible rfl)
 try simp only[Act.put,rd]
 refine nx 10 fun K hK=>?_
 go_simp
 refine (HMt.out _ _ HEd.out).mono ?_
 rintro e w3 ⟨rfl,rfl⟩
 go_simp
 refine hK.out _ _ (HX.out _ _ HEd.out) (fun hHeld2=>?_)
 clear hHeld
 refine nx 11 fun K hK=>?_
 go_simp
 refine (HVx.out _ _ HEd.out).mono ?_
 rintro e w4 ⟨rfl,R4,he4⟩
 have HE4:=Lib.hid (HEd.out.trans he4)
 clear he4
 go_simp
 refine hK.out _ _ (HX.out _ _ HE4.out) (fun hHeld3=>?_)
 clear hHeld2
 refine tk 12 (v:=?ft15) ?gt15 ?_
 case gt15=>(intro w' ⟨s0,s1,s2,s3,s4,s5⟩;go_simp;try with_reducible rfl)
 try simp only[Act.put,rd]
 refine tk 13 (v:=?ft16) ?gt16 ?_
 case gt16=>(intro w' ⟨s0,s1,s2,s3,s4,s5⟩;go_simp;try with_reducible rfl)
 try simp only[Act.put,rd]
 refine tk 18 (v:=?ft17) ?gt17 ?_
 case gt17=>(intro w' ⟨s0,s1,s2,s3,s4,s5⟩;go_simp;try with_reducible rfl)
 try simp only[Act.put,rd]
 refine tk 19 (v:=?ft18) ?gt18 ?_
 case gt18=>(intro w' ⟨s0,s1,s2,s3,s4,s5⟩;go_simp;try with_reducible rfl)
 try simp only[Act.put,rd]
 refine wpAnyH_done (by kernel_rfl) ?_ _
 go_wp2_with fail
 go_ret
 exact⟨by rw[←hk];rfl,R4,HE4.out⟩
def RetTwo (R:Reg) (w:World) (u q:Nat) (e:Ending) (w':World):Prop:=e=.returned (.tuple #[.int .i64 (u:Int),.int .i64 (q:Int)])∧∃ R',Ev R w R' w'
set_option maxRecDepth 100000 in
set_option maxHeartbeats 6000000 in
theorem ends_any (R:Reg) (w:World) (hI:Inv R w) (p:Value) (s:List Nat) (r:Nat) (hp:MapAt R p s (r:Int) 0) (h:TriS s) (hr:r<s.length) (b:Nat) (hB:WoodBox R w b p s r) (ad:Option Addr) (cd:Nat) (D:List Int) (hD5:∀ R' w',Ev R w R' w'→w'.cell? ⟨b,5,none⟩=some (.slice ad D.length cd)) (hDf:FreeI R w (.slice ad D.length cd) D) (hDs:DartsOf s D)
  (a0:Option Addr) (V c:Nat) (P:List Int) (hV:(sizesL s).length=V) (hP:FreeI R w (.slice a0 V c) P) (hPl:PlTo P (orderL s r) V V) (i:Nat) (h2:2≤i) (hi:i<V) (v:Nat) (hv:nth (orderL s r) i=(v:Int)) (u q J:Nat) (hE:EndsAt s r (plP P) i u q J)
  (hc:nth (orderL s r) i=nth (namesL s) (at' (phiL s) (at' (phiL s) r))→u=at' (phiL s) (at' (phiL s) r)∧q=at' (phiL s) r ^^^ 1) (hn:nth (orderL s r) i≠nth (namesL s) (at' (phiL s) (at' (phiL s) r))→∃ j,RunAt s (plP P) (nth (orderL s r) i) q u j J∧1<j):
  Calls Tryz.prog 44 #[.pointer (some ⟨b,0,none⟩),.int .i64 (v:Int),.slice a0 V c] w (RetTwo R w u q):=by
 obtain⟨hS,hok⟩:=hp.ok hI
 have hvm:=(order_mem h hr _).1 (nth_mem (l:=orderL s r) (i:=i) (by rw[order_len h hr,hV];exact hi))
 have hvV:v<V:=by omega
 obtain⟨gp,off,rfl,-⟩:=hP.later (i:=v) (by rw[hPl.1];exact hvV)
 obtain⟨d0,hd0,hd0l,hd0v⟩:=hDs.2 v (by rw[hDs.1];omega)
 obtain⟨gd,offd,rfl,hcv⟩:=hDf.later (i:=v) (by rw[hDs.1];omega)
 rw[hd0] at hcv
 obtain⟨V',hV'⟩:∃ x,D.length=x:=⟨_,rfl⟩
 have hVV:v<V':=by rw[←hV',hDs.1,hV];exact hvV
 rw[hV'] at hD5
 have he1:=(((Ev.refl hI).alloc (.cells #[.pointer (some ⟨b,0,none⟩)] 32)).alloc (.cells #[.int .i64 (v:Int)] 3)).alloc (.cells #[.slice (some ⟨gp,off,none⟩) V c] 25)
 have HN3:Hid (R w.heap.size=none∧R (w.heap.size+1)=none∧R (w.heap.size+1+1)=none):=Lib.hid ⟨hI.none_of_ge (Nat.le_refl _),hI.none_of_ge (by omega),hI.none_of_ge (by omega)⟩
 obtain⟨wa,hwa⟩:∃ x,((w.alloc (.cells #[.pointer (some ⟨b,0,none⟩)] 32)).alloc (.cells #[.int .i64 (v:Int)] 3)).alloc (.cells #[.slice (some ⟨gp,off,none⟩) V c] 25)=x:=⟨_,rfl⟩
 rw[hwa] at he1
 have hcs:wa.cell? ⟨w.heap.size,0,none⟩=some (.pointer (some ⟨b,0,none⟩))∧wa.cell? ⟨w.heap.size+1,0,none⟩=some (.int .i64 (v:Int))∧wa.cell? ⟨w.heap.size+1+1,0,none⟩=some (.slice (some ⟨gp,off,none⟩) V c):=by
  rw[←hwa]
  refine⟨?_,?_,?_⟩
  ·rw[World.cell?_alloc_past _ _ _ (by simp;omega),World.cell?_alloc_past _ _ _ (by simp),World.cell?_alloc_at _ _ _ _ rfl];rfl
  ·rw[World.cell?_alloc_past _ _ _ (by simp),World.cell?_alloc_at _ _ _ _ (by simp)];rfl
  ·rw[World.cell?_alloc_at _ _ _ _ (by simp)];rfl
 obtain⟨e2,he2⟩:∃ e2,nth (namesL s) (at' (phiL s) (at' (phiL s) r))=e2:=⟨_,rfl⟩
 have hXa:∀ R' w',Ev R wa R' w'→w'.cell? ⟨w.heap.size,0,none⟩=some (.pointer (some ⟨b,0,none⟩))∧w'.cell? ⟨w.heap.size+1,0,none⟩=some (.int .i64 (v:Int))∧w'.cell? ⟨b,0,none⟩=some p∧w'.cell? ⟨b,1,none⟩=some (.int .i64 e2)∧w'.cell? ⟨b,5,none⟩=some (.slice (some ⟨gd,offd,none⟩) V' cd)∧w'.cell? ⟨gd,offd+v,none⟩=some (.int .i64 (d0:Int)):=fun R' w' he=>
  ⟨he.cellAt HN3.out.1 hcs.1,he.cellAt HN3.out.2.1 hcs.2.1,(hB _ _ (he1.trans he)).1,by rw[←he2];exact (hB _ _ (he1.trans he)).2.1,hD5 _ _ (he1.trans he),hcv _ _ (he1.trans he)⟩
 have hEB:EndBox R wa p (w.heap.size+1+1) w.heap.size (w.heap.size+1) b gp off V c P v:=fun R' w' he=>⟨he.cellAt HN3.out.2.2 hcs.2.2,he.cellAt HN3.out.1 hcs.1,he.cellAt HN3.out.2.1 hcs.2.1,(hB _ _ (he1.trans he)).1,fun k hk=>by
  obtain⟨g,o,e,hck⟩:=hP.later (i:=k) (by rw[hPl.1];exact hk)
  cases e
  exact hck _ _ (he1.trans he)⟩
 have hAh:∀ x,x<s.length→nth (namesL s) x=nth (orderL s r) i→decide (nth P (vtx s (x ^^^ 1))<nth P v)=ahZ s (plP P) x:=fun x hx e=>by
  rw[hV.symm] at hPl
  have k1:=(hPl.at h hr (xor_one_lt h.even hx)).1
  have k2:=(hPl.at h hr hx).1
  have k3:vtx s x=v:=by have:=vtx_eq hS hx;omega
  rw[k3] at k2
  rw[k1,k2]
  unfold ahZ farP
  exact decide_eq_decide.2 (by omega)
 have HMt:=Lib.hid (fun R' w' (he:Ev R wa R' w') (d:Nat) (hd:d<s.length)=>by
  have:=mate_any R' w' he.inv p s (r:Int) 0 ((he1.trans he).map hp) d
  rwa [mateI_in hd] at this)
 have HSg:=Lib.hid (fun R' w' (he:Ev R wa R' w') (d:Nat) (hd:d<s.length)=>by
  have:=sigma_any R' w' he.inv p s (r:Int) 0 ((he1.trans he).map hp) d
  rwa [atI_in hd] at this)
 have HBk:=Lib.hid (fun R' w' (he:Ev R wa R' w') (x:Nat) (hx:x<s.length)=>by
  have:=mback_any R' w' he.inv p s (r:Int) 0 ((he1.trans he).map hp) (x:Int)
  rwa [backI_in hx] at this)
 have HRo:=Lib.hid (fun R' w' (he:Ev R wa R' w')=>root_any R' w' he.inv p s (r:Int) 0 ((he1.trans he).map hp))
 have HBo:=Lib.hid (fun R' w' (he:Ev R wa R' w')=>by
  have:=border_any R' w' he.inv p s (r:Int) 0 ((he1.trans he).map hp) (r:Int)
  rwa [orbI_in (by rw[phiL_length];exact hr),h.orb hr] at this)
 have HEn:=Lib.hid (fun R' w' (he:Ev R wa R' w') (x:Nat) (hx:x<s.length) (e:nth (namesL s) x=nth (orderL s r) i)=>ends1_any R' w' he.inv p s (r:Int) 0 ((he1.trans he).map hp) h (w.heap.size+1+1) w.heap.size (w.heap.size+1) b gp off V c P v (fun R'' w'' hh=>hEB _ _ (he.trans hh)) (by omega) hvV x hx _ (hAh x hx e))
 have hd0n:nth (namesL s) d0=nth (orderL s r) i:=by rw[vtx_eq hS hd0l,hd0v,hv]
 have HXa:=Lib.hid hXa
 have HE1:=Lib.hid he1
 have hpm:=hp
 obtain⟨bp,rfl,-⟩:=hp
 have HEd:=Lib.hid (Ev.refl he1.inv).drew
 have HT:=Lib.hid h
 have HR:=Lib.hid hr
 obtain⟨ow,how⟩:∃ x,w.heap.size=x:=⟨_,rfl⟩
 rw[how] at HXa HEn
 by_cases hcc:nth (orderL s r) i=nth (namesL s) (at' (phiL s) (at' (phiL s) r))
 ·as_aux_lemma=>
   obtain⟨rfl,rfl⟩:=hc hcc
   have hve:(v:Int)=e2:=by rw[←hv,hcc,he2]
   have hbv:((v:Int) == e2)=true:=beq_iff_eq.2 hve
   have l1:=h.phl hr
   clear HEn HBk HSg hd0n hc hn hE hAh hEB hXa hB hD5 hDf hP hPl hDs hcs hI he1 hcv hd0 hpm hvm hve h hr hS hok
   go_enter Tryz.func44,Tryz.ntmps44
   go_wp2_with fail
   go_cut [18] (fun s18 wx=>s18=.bool true∧Ev R wa R wx)
   case first=>
    obtain⟨y0,y1,y2,y3,-⟩:=HXa.out _ _ HEd.out
    refine wp_region_held_drew (S:=fun W=>W.cell? ⟨ow,0,none⟩=some (.pointer (some ⟨b,0,none⟩))∧W.cell? ⟨ow+1,0,none⟩=some (.int .i64 (v:Int))∧W.cell? ⟨b,1,none⟩=some (.int .i64 e2)) (by kernel_rfl) ⟨y0,y1,y3⟩ (fun hHeld=>?_)
    refine tk 0 (v:=?ft19) ?gt19 ?_
    case gt19=>(intro w' ⟨s0,s1,s2⟩;go_simp;try with_reducible rfl)
    try simp only[Act.put,rd]
    refine tk 1 (v:=?ft20) ?gt20 ?_
    case gt20=>(intro w' ⟨s0,s1,s2⟩;go_simp;try with_reducible rfl)
    try simp only[Act.put,rd]
    refine tk 2 (v:=?ft21) ?gt21 ?_
    case gt21=>(intro w' ⟨s0,s1,s2⟩;go_simp;try with_reducible rfl)
    try simp only[Act.put,rd]
    refine tk 3 (v:=?ft22) ?gt22 ?_
    case gt22=>(intro w' ⟨s0,s1,s2⟩;go_simp;try with_reducible rfl)
    try simp only[Act.put,rd]
    refine tk 4 (v:=?ft23) ?gt23 ?_
    case gt23=>(intro w' ⟨s0,s1,s2⟩;go_simp;try with_reducible rfl)
    try simp only[Act.put,rd]
    refine tk 5 (v:=?ft24) ?gt24 ?_
    case gt24=>(intro w' ⟨s0,s1,s2⟩;go_simp;try with_reducible rfl)
    try simp only[Act.put,rd]
    refine tk 6 (v:=(.bool true)) ?gt25 ?_
    case gt25=>(intro w' ⟨s0,s1,s2⟩;go_simp;try with_reducible rfl)
    try simp only[Act.put,rd]
    refine wpAnyH_done (by kernel_rfl) ?_ _
    go_wp2_with fail
    go_meet
    exact⟨rfl,HEd.out⟩
   case rest=>
    obtain⟨rfl,hex⟩:=hcut
    have HEx:=Lib.hid hex
    clear hex HEd
    go_wp2_with fail
    go_cut [8] (fun s8 wx=>∃ (a8:Option Addr) (c8:Nat),s8=.slice a8 3 c8∧Ev R wa R wx∧OwnI R wa.heap.size 3 wx (.slice a8 3 c8) (toI [r,at' (phiL s) r,at' (phiL s) (at' (phiL s) r)]))
    case first=>
     have HEy:=Lib.hid (HEx.out.drew)
     obtain⟨y0,y1,y2,-⟩:=HXa.out _ _ HEy.out
     refine wp_region_held_drew (S:=fun W=>W.cell? ⟨ow,0,none⟩=some (.pointer (some ⟨b,0,none⟩))∧W.cell? ⟨b,0,none⟩=some (.pointer (some ⟨bp,0,none⟩))) (by kernel_rfl) ⟨y0,y2⟩ (fun hHeld=>?_)
     refine tk 0 (v:=?ft26) ?gt26 ?_
     case gt26=>(intro w' ⟨s0,s1⟩;go_simp;try with_reducible rfl)
     try simp only[Act.put,rd]
     refine tk 1 (v:=?ft27) ?gt27 ?_
     case gt27=>(intro w' ⟨s0,s1⟩;go_simp;try with_reducible rfl)
     try simp only[Act.put,rd]
     refine tk 2 (v:=?ft28) ?gt28 ?_
     case gt28=>(intro w' ⟨s0,s1⟩;go_simp;try with_reducible rfl)
     try simp only[Act.put,rd]
     refine tk 3 (v:=?ft29) ?gt29 ?_
     case gt29=>(intro w' ⟨s0,s1⟩;go_simp;try with_reducible rfl)
     try simp only[Act.put,rd]
     refine tk 4 (v:=?ft30) ?gt30 ?_
     case gt30=>(intro w' ⟨s0,s1⟩;go_simp;try with_reducible rfl)
     try simp only[Act.put,rd]
     refine tk 5 (v:=?ft31) ?gt31 ?_
     case gt31=>(intro w' ⟨s0,s1⟩;go_simp;try with_reducible rfl)
     try simp only[Act.put,rd]
     refine tk 6 (v:=?ft32) ?gt32 ?_
     case gt32=>(intro w' ⟨s0,s1⟩;go_simp;try with_reducible rfl)
     try simp only[Act.put,rd]
     refine tk 7 (v:=?ft33) ?gt33 ?_
     case gt33=>(intro w' ⟨s0,s1⟩;go_simp;try with_reducible rfl)
     try simp only[Act.put,rd]
     refine nx 8 fun K hK=>?_
     go_simp
     refine (HRo.out _ _ HEy.out).mono ?_
     rintro e w3 ⟨rfl,rfl⟩
     go_simp
     refine hK.out _ _ ⟨y0,y2⟩ (fun hHeld2=>?_)
     clear hHeld
     refine nx 9 fun K hK=>?_
     go_simp
     refine (HBo.out _ _ HEy.out).mono ?_
     rintro e w4 ⟨v4,rfl,he4,ho4⟩
     obtain⟨a4,c4,rfl,-⟩:=ho4.ints.open
     have hl4:(toI [r,at' (phiL s) r,at' (phiL s) (at' (phiL s) r)]).length=3:=rfl
     rw[hl4] at ho4 ⊢
     have HO4:=Lib.hid (ho4.mono HEy.out.size)
     have HE4:=Lib.hid (HEy.out.trans he4)
     clear ho4 he4
     go_simp
     obtain⟨x0,x1,x2,-⟩:=HXa.out _ _ HE4.out
     refine hK.out _ _ ⟨x0,x2⟩ (fun hHeld3=>?_)
     clear hHeld2
     refine tk 10 (v:=?ft34) ?gt34 ?_
     case gt34=>(intro w' ⟨s0,s1⟩;go_simp;try with_reducible rfl)
     try simp only[Act.put,rd]
     refine wpAnyH_done (by kernel_rfl) ?_ _
     go_wp2_with fail
     go_meet
     exact⟨a4,c4,rfl,HE4.out,HO4.out⟩
    case rest=>
     obtain⟨a8,c8,rfl,hex,ho8⟩:=hcut
     have HEy:=Lib.hid hex
     have HO8:=Lib.hid ho8
     clear hex ho8 HEx
     go_wp2_with fail
     obtain⟨g8,rfl,-,-,z2,-⟩:=HO8.out.headAt rfl (i:=2) (by omega)
     obtain⟨_,e,-,-,z1,-⟩:=HO8.out.headAt rfl (i:=1) (by omega)
     cases e
     rw[show nth (toI [r,at' (phiL s) r,at' (phiL s) (at' (phiL s) r)]) 2=((at' (phiL s) (at' (phiL s) r):Nat):Int) from rfl] at z2
     rw[show nth (toI [r,at' (phiL s) r,at' (phiL s) (at' (phiL s) r)]) 1=((at' (phiL s) r:Nat):Int) from rfl] at z1
     have HEz:=Lib.hid (HEy.out.drew)
     obtain⟨y0,y1,y2,-⟩:=HXa.out _ _ HEz.out
     have HMt:=Lib.hid (HMt.out _ _ HEz.out _ l1)
     refine wp_region_held_drew (S:=fun W=>W.cell? ⟨ow,0,none⟩=some (.pointer (some ⟨b,0,none⟩))∧W.cell? ⟨b,0,none⟩=some (.pointer (some ⟨bp,0,none⟩))∧W.cell? ⟨g8,2,none⟩=some (.int .i64 ((at' (phiL s) (at' (phiL s) r):Nat):Int))∧W.cell? ⟨g8,1,none⟩=some (.int .i64 ((at' (phiL s) r:Nat):Int))) (by kernel_rfl) ⟨y0,y2,z2,z1⟩ (fun hHeld=>?_)
     refine tk 0 (v:=?ft35) ?gt35 ?_
     case gt35=>(intro w' ⟨s0,s1,s2,s3⟩;go_simp;try with_reducible rfl)
     try simp only[Act.put,rd]
     refine tk 1 (v:=?ft36) ?gt36 ?_
     case gt36=>(intro w' ⟨s0,s1,s2,s3⟩;go_simp;try with_reducible rfl)
     try simp only[Act.put,rd]
     refine tk 2 (v:=?ft37) ?gt37 ?_
     case gt37=>(intro w' ⟨s0,s1,s2,s3⟩;go_simp;try with_reducible rfl)
     try simp only[Act.put,rd]
     refine tk 3 (v:=?ft38) ?gt38 ?_
     case gt38=>(intro w' ⟨s0,s1,s2,s3⟩;go_simp;try with_reducible rfl)
     try simp only[Act.put,rd]
     refine tk 4 (v:=?ft39) ?gt39 ?_
     case gt39=>(intro w' ⟨s0,s1,s2,s3⟩;go_simp;try with_reducible rfl)
     try simp only[Act.put,rd]
     refine tk 5 (v:=?ft40) ?gt40 ?_
     case gt40=>(intro w' ⟨s0,s1,s2,s3⟩;go_simp;try with_reducible rfl)
     try simp only[Act.put,rd]
     refine tk 6 (v:=?ft41) ?gt41 ?_
     case gt41=>(intro w' ⟨s0,s1,s2,s3⟩;go_simp;try with_reducible rfl)
     try simp only[Act.put,rd]
     refine tk 7 (v:=?ft42) ?gt42 ?_
     case gt42=>(intro w' ⟨s0,s1,s2,s3⟩;go_simp;try with_reducible rfl)
     try simp only[Act.put,rd]
     refine tk 8 (v:=?ft43) ?gt43 ?_
     case gt43=>(intro w' ⟨s0,s1,s2,s3⟩;go_simp;try with_reducible rfl)
     try simp only[Act.put,rd]
     refine tk 9 (v:=?ft44) ?gt44 ?_
     case gt44=>(intro w' ⟨s0,s1,s2,s3⟩;go_simp;try with_reducible rfl)
     try simp only[Act.put,rd]
     refine nx 10 fun K hK=>?_
     go_simp
     refine HMt.out.mono ?_
     rintro e w3 ⟨rfl,rfl⟩
     go_simp
     refine hK.out _ _ ⟨y0,y2,z2,z1⟩ (fun hHeld2=>?_)
     clear hHeld
     refine tk 11 (v:=?ft45) ?gt45 ?_
     case gt45=>(intro w' ⟨s0,s1,s2,s3⟩;go_simp;try with_reducible rfl)
     try simp only[Act.put,rd]
     refine tk 12 (v:=?ft46) ?gt46 ?_
     case gt46=>(intro w' ⟨s0,s1,s2,s3⟩;go_simp;try with_reducible rfl)
     try simp only[Act.put,rd]
     refine wpAnyH_done (by kernel_rfl) ?_ _
     go_wp2_with fail
     go_ret2
     exact⟨rfl,R,HE1.out.trans HEz.out⟩
 ·obtain⟨j,hk,hj⟩:=hn hcc
  as_aux_lemma=>
   have hve:¬ (v:Int)=e2:=by rw[←hv,←he2];exact hcc
   have hbv:((v:Int) == e2)=false:=beq_eq_false_iff_ne.2 hve
   obtain⟨_,_,m',hm'⟩:=(cyc_at hS).2 ⟨hd0l,hE.ul,by rw[hd0n,hE.uv]⟩
   obtain⟨m,-,hm,hml⟩:=least_nat (p:=fun m=>itf (at' s) m d0=u) m' hm'
   have HIt:=Lib.hid (fun l=>(show itf (at' s) l d0<s.length∧nth (namesL s) (itf (at' s) l d0)=nth (orderL s r) i by
    induction l with
    | zero=>exact⟨hd0l,hd0n⟩
    | succ l ih=>rw[itf_succ];exact⟨hS.lt ih.1,by rw[names_turn hS ih.1];exact ih.2⟩))
   have HIu:=Lib.hid (fun l=>(show itf (at' s) l u<s.length∧nth (namesL s) (itf (at' s) l u)=nth (orderL s r) i by
    induction l with
    | zero=>exact⟨hE.ul,hE.uv⟩
    | succ l ih=>rw[itf_succ];exact⟨hS.lt ih.1,by rw[names_turn hS ih.1];exact ih.2⟩))
   have HIv:=Lib.hid (fun x (hx:x<s.length)=>h.inv_lt hx)
   have HU:=Lib.hid (fun x (hx:x<s.length) (e:nth (namesL s) x=nth (orderL s r) i) (a:ahZ s (plP P) x=true) (n:ahZ s (plP P) (at' (invL s) x)=false)=>(by
    obtain⟨k1,k2,k3⟩:=h.inv_lt hx
    have:=hk.begin h k1 (by rw[k3,e]) (fun q=>by rw[ahZ_iff.2 q] at n;cases n) (by rw[k2];exact ahZ_iff.1 a)
    rw[k2] at this
    exact this:x=u))
   have hua:ahZ s (plP P) u=true:=ahZ_iff.2 (hk.yes 0 (Nat.zero_le _))
   have hun:ahZ s (plP P) (at' (invL s) u)=false:=by
    have e:at' (invL s) (itf (at' s) (j-1+1) q)=itf (at' s) (j-1) q:=by
     rw[itf_succ]
     have:itf (at' s) (j-1) q<s.length:=hS.pm.it hk.ql _
     exact invL_at hS this
    rw[show j-1+1=j by omega,hk.qu] at e
    rw[e]
    cases z:ahZ s (plP P) (itf (at' s) (j-1) q)
    ·rfl
    ·exact absurd (ahZ_iff.1 z) (hk.no (j-1) (by omega) (by omega))
   have HNx:=Lib.hid (fun l (hl:l≤J)=>(by
    rcases Nat.lt_or_ge l J with z|z
    ·exact .inl ⟨z,ahZ_iff.2 (hk.yes (l+1) z)⟩
    ·have z2:l=J:=by omega
     refine .inr ⟨z2,?_⟩
     cases y:ahZ s (plP P) (itf (at' s) (l+1) u)
     ·rfl
     ·refine absurd (ahZ_iff.1 y) ?_
      rw[z2,itf_succ,hk.uq]
      exact hk.no 1 (by omega) hj:(l<J∧ahZ s (plP P) (itf (at' s) (l+1) u)=true)∨(l=J∧ahZ s (plP P) (itf (at' s) (l+1) u)=false)))
   have HUa:=Lib.hid hua
   have HUn:=Lib.hid hun
   have HUq:=Lib.hid hk.uq
   clear HMt hd0n hc hn hE hAh hEB hXa hB hD5 hDf hP hPl hDs hcs hI he1 hcv hd0 hpm hve h hr hS hok HRo HBo hk hua hun hm'
   go_enter Tryz.func44,Tryz.ntmps44
   go_wp2_with fail
   go_cut [18] (fun s18 wx=>s18=.bool false∧Ev R wa R wx)
   case first=>
    obtain⟨y0,y1,y2,y3,-⟩:=HXa.out _ _ HEd.out
    refine wp_region_held_drew (S:=fun W=>W.cell? ⟨ow,0,none⟩=some (.pointer (some ⟨b,0,none⟩))∧W.cell? ⟨ow+1,0,none⟩=some (.int .i64 (v:Int))∧W.cell? ⟨b,1,none⟩=some (.int .i64 e2)) (by kernel_rfl) ⟨y0,y1,y3⟩ (fun hHeld=>?_)
    refine tk 0 (v:=?ft47) ?gt47 ?_
    case gt47=>(intro w' ⟨s0,s1,s2⟩;go_simp;try with_reducible rfl)
    try simp only[Act.put,rd]
    refine tk 1 (v:=?ft48) ?gt48 ?_
    case gt48=>(intro w' ⟨s0,s1,s2⟩;go_simp;try with_reducible rfl)
    try simp only[Act.put,rd]
    refine tk 2 (v:=?ft49) ?gt49 ?_
    case gt49=>(intro w' ⟨s0,s1,s2⟩;go_simp;try with_reducible rfl)
    try simp only[Act.put,rd]
    refine tk 3 (v:=?ft50) ?gt50 ?_
    case gt50=>(intro w' ⟨s0,s1,s2⟩;go_simp;try with_reducible rfl)
    try simp only[Act.put,rd]
    refine tk 4 (v:=?ft51) ?gt51 ?_
    case gt51=>(intro w' ⟨s0,s1,s2⟩;go_simp;try with_reducible rfl)
    try simp only[Act.put,rd]
    refine tk 5 (v:=?ft52) ?gt52 ?_
    case gt52=>(intro w' ⟨s0,s1,s2⟩;go_simp;try with_reducible rfl)
    try simp only[Act.put,rd]
    refine tk 6 (v:=(.bool false)) ?gt53 ?_
    case gt53=>(intro w' ⟨s0,s1,s2⟩;go_simp;try with_reducible rfl)
    try simp only[Act.put,rd]
    refine wpAnyH_done (by kernel_rfl) ?_ _
    go_wp2_with fail
    go_meet
    exact⟨rfl,HEd.out⟩
   case rest=>
    obtain⟨rfl,hex⟩:=hcut
    have HEx:=Lib.hid hex
    clear hex HEd
    go_wp2_with fail
    go_cut [10] (fun s10 wx=>s10=.int .i64 (d0:Int)∧Ev R wa R wx)
    case first=>
     have HEy:=Lib.hid (HEx.out.drew)
     obtain⟨y0,y1,y2,y3,y4,y5⟩:=HXa.out _ _ HEy.out
     refine wp_region_held_drew (S:=fun W=>W.cell? ⟨ow,0,none⟩=some (.pointer (some ⟨b,0,none⟩))∧W.cell? ⟨ow+1,0,none⟩=some (.int .i64 (v:Int))∧W.cell? ⟨b,5,none⟩=some (.slice (some ⟨gd,offd,none⟩) V' cd)∧W.cell? ⟨gd,offd+v,none⟩=some (.int .i64 (d0:Int))) (by kernel_rfl) ⟨y0,y1,y4,y5⟩ (fun hHeld=>?_)
     refine tk 0 (v:=?ft54) ?gt54 ?_
     case gt54=>(intro w' ⟨s0,s1,s2,s3⟩;go_simp;try with_reducible rfl)
     try simp only[Act.put,rd]
     refine tk 1 (v:=?ft55) ?gt55 ?_
     case gt55=>(intro w' ⟨s0,s1,s2,s3⟩;go_simp;try with_reducible rfl)
     try simp only[Act.put,rd]
     refine tk 2 (v:=?ft56) ?gt56 ?_
     case gt56=>(intro w' ⟨s0,s1,s2,s3⟩;go_simp;try with_reducible rfl)
     try simp only[Act.put,rd]
     refine tk 3 (v:=?ft57) ?gt57 ?_
     case gt57=>(intro w' ⟨s0,s1,s2,s3⟩;go_simp;try with_reducible rfl)
     try simp only[Act.put,rd]
     refine tk 4 (v:=?ft58) ?gt58 ?_
     case gt58=>(intro w' ⟨s0,s1,s2,s3⟩;go_simp;try with_reducible rfl)
     try simp only[Act.put,rd]
     refine tk 5 (v:=?ft59) ?gt59 ?_
     case gt59=>(intro w' ⟨s0,s1,s2,s3⟩;go_simp;try with_reducible rfl)
     try simp only[Act.put,rd]
     refine tk 6 (v:=?ft60) ?gt60 ?_
     case gt60=>(intro w' ⟨s0,s1,s2,s3⟩;go_simp;try with_reducible rfl)
     try simp only[Act.put,rd]
     refine tk 7 (v:=?ft61) ?gt61 ?_
     case gt61=>(intro w' ⟨s0,s1,s2,s3⟩;go_simp;try with_reducible rfl)
     try simp only[Act.put,rd]
     refine wpAnyH_done (by kernel_rfl) ?_ _
     go_wp2_with fail
     go_meet
     exact⟨rfl,HEy.out⟩
    case rest=>
     obtain⟨rfl,hex⟩:=hcut
     have HEy:=Lib.hid hex
     clear hex HEx
     go_wp2_with fail
     go_loopg [10] m (fun g v10 wq=>∃ (l:Nat) (R6:Reg),l≤m∧m-l≤g∧v10=.int .i64 ((itf (at' s) l d0:Nat):Int)∧Ev R wa R6 wq)
     case atStart=>exact⟨0,R,Nat.zero_le _,by omega,rfl,HEy.out⟩
     case round=>
      obtain⟨l,R6,hlm,hg,rfl,he6⟩:=hrel
      as_aux_lemma=>
       have HE6:=Lib.hid he6
       clear he6 HEy
       obtain⟨dl,dn⟩:=HIt.out l
       have hnx:at' s (itf (at' s) l d0)=itf (at' s) (l+1) d0:=(itf_succ ..).symm
       have hlu:l<m∨(l=m∧itf (at' s) l d0=u):=by
        rcases Nat.lt_or_ge l m with z|z
        ·exact .inl z
        ·have z2:l=m:=by omega
         exact .inr ⟨z2,by rw[z2];exact hm⟩
       have hlx:itf (at' s) l d0=u→l=m:=fun e=>by
        rcases Nat.lt_or_ge l m with z|z
        ·exact absurd e (hml l z)
        ·omega
       obtain⟨dd,hdd⟩:∃ dd,itf (at' s) l d0=dd:=⟨_,rfl⟩
       rw[hdd] at dl dn hnx hlu hlx ⊢
       obtain⟨y0,y1,y2,-⟩:=HXa.out _ _ HE6.out
       have HA1:=Lib.hid (HEn.out _ _ HE6.out dd dl dn)
       have HSg1:=Lib.hid (fun R' w' (he:Ev R wa R' w')=>HSg.out R' w' he dd dl)
       rw[hnx] at HSg1
       cases hk1:ahZ s (plP P) dd
       ·rw[hk1] at HA1
        have hl2:l<m:=by
         rcases hlu with z|⟨_,z⟩
         ·exact z
         ·rw[z,HUa.out] at hk1;cases hk1
        go_wp2_with fail
        refine HA1.out.mono ?_
        rintro e w7 ⟨rfl,R7,he7⟩
        have HE7:=Lib.hid (HE6.out.trans he7)
        clear he7 y0 y1 y2
        obtain⟨y0,y1,y2,-⟩:=HXa.out _ _ HE7.out
        go_wp2_with fail
        refine (HSg1.out _ _ HE7.out).mono ?_
        rintro e w8 ⟨rfl,rfl⟩
        go_wp2_with fail
        go_roundg (m-(l+1))
        case measure=>omega
        case rel=>exact⟨l+1,R7,by omega,by omega,rfl,HE7.out⟩
       ·rw[hk1] at HA1
        go_wp2_with fail
        refine HA1.out.mono ?_
        rintro e w7 ⟨rfl,R7,he7⟩
        have HE7:=Lib.hid (HE6.out.trans he7)
        clear he7 y0 y1 y2
        obtain⟨y0,y1,y2,-⟩:=HXa.out _ _ HE7.out
        obtain⟨i1,i2,i3⟩:=HIv.out dd dl
        have HBk1:=Lib.hid (HBk.out _ _ HE7.out dd dl)
        obtain⟨bd,hbd⟩:∃ x,at' (invL s) dd=x:=⟨_,rfl⟩
        have hU:=HU.out dd dl dn hk1
        rw[hbd] at i1 i2 i3 HBk1 hU
        go_wp2_with fail
        refine HBk1.out.mono ?_
        rintro e w8 ⟨rfl,R8,he8⟩
        have HE8:=Lib.hid (HE7.out.trans he8)
        have HA2:=Lib.hid (HEn.out _ _ HE8.out bd i1 (by rw[i3,dn]))
        clear he8 y0 y1 y2
        cases hk2:ahZ s (plP P) bd
        ·rw[hk2] at HA2
         have heu:dd=u:=hU hk2
         go_wp2_with fail
         refine HA2.out.mono ?_
         rintro e w9 ⟨rfl,R9,he9⟩
         have HE9:=Lib.hid (HE8.out.trans he9)
         clear he9 hbd i1 i2 i3 hU HBk1 hnx hlx hlu dl dn hdd HA1 HA2
         subst heu
         go_wp2_with fail
         go_loopg [10] J (fun g v10 wq=>∃ (k:Nat) (R6:Reg),k≤J∧J-k≤g∧v10=.int .i64 ((itf (at' s) k dd:Nat):Int)∧Ev R wa R6 wq)
         case atStart=>exact⟨0,R9,Nat.zero_le _,by omega,rfl,HE9.out⟩
         case round=>
          obtain⟨k,R10,hkJ,hgk,rfl,he10⟩:=hrel
          as_aux_lemma=>
           have HE10:=Lib.hid he10
           clear he10 HE9 HE8 HE7 HE6
           obtain⟨ul,un⟩:=HIu.out k
           obtain⟨xl,xn⟩:=HIu.out (k+1)
           have hux:at' s (itf (at' s) k dd)=itf (at' s) (k+1) dd:=(itf_succ ..).symm
           have hcase:=HNx.out k hkJ
           have hq:k=J→itf (at' s) k dd=q:=fun e=>by rw[e];exact HUq.out
           have hs:=HSg.out _ _ HE10.out _ ul
           rw[hux] at hs
           have HSg2:=Lib.hid hs
           have HSg3:=Lib.hid (fun R' w' (he:Ev R wa R' w')=>HSg.out R' w' he _ ul)
           rw[hux] at HSg3
           have HA3:=Lib.hid (HEn.out _ _ HE10.out _ xl xn)
           obtain⟨d1,hd1⟩:∃ x,itf (at' s) k dd=x:=⟨_,rfl⟩
           rw[hd1] at hq HSg2 HSg3 ⊢
           obtain⟨d2,hd2⟩:∃ x,itf (at' s) (k+1) dd=x:=⟨_,rfl⟩
           rw[hd2] at hcase HSg2 HSg3 HA3
           obtain⟨y0,y1,y2,-⟩:=HXa.out _ _ HE10.out
           clear hs ul un xl xn hux
           rcases hcase with ⟨hk5,ha5⟩|⟨hk5,ha5⟩
           ·rw[ha5] at HA3
            go_wp2_with fail
            refine HSg2.out.mono ?_
            rintro e w11 ⟨rfl,rfl⟩
            go_wp2_with fail
            refine HA3.out.mono ?_
            rintro e w12 ⟨rfl,R12,he12⟩
            have HE12:=Lib.hid (HE10.out.trans he12)
            clear he12 y0 y1 y2
            obtain⟨y0,y1,y2,-⟩:=HXa.out _ _ HE12.out
            go_wp2_with fail
            refine (HSg3.out _ _ HE12.out).mono ?_
            rintro e w13 ⟨rfl,rfl⟩
            go_wp2_with fail
            go_roundg (J-(k+1))
            case measure=>omega
            case rel=>exact⟨k+1,R12,by omega,by omega,by rw[hd2],HE12.out⟩
           ·rw[ha5] at HA3
            have hdq:=hq hk5
            clear hk5 hq
            subst hdq
            go_wp2_with fail
            refine HSg2.out.mono ?_
            rintro e w11 ⟨rfl,rfl⟩
            go_wp2_with fail
            refine HA3.out.mono ?_
            rintro e w12 ⟨rfl,R12,he12⟩
            have HE12:=Lib.hid (HE10.out.trans he12)
            clear he12 y0 y1 y2
            go_wp2_with fail
            go_ret2
            exact⟨rfl,R12,HE1.out.trans HE12.out⟩
        ·rw[hk2] at HA2
         have hl2:l<m:=by
          rcases hlu with z|⟨_,z⟩
          ·exact z
          ·rw[z] at hbd;rw[←hbd,HUn.out] at hk2;cases hk2
         go_wp2_with fail
         refine HA2.out.mono ?_
         rintro e w9 ⟨rfl,R9,he9⟩
         have HE9:=Lib.hid (HE8.out.trans he9)
         clear he9
         obtain⟨y0,y1,y2,-⟩:=HXa.out _ _ HE9.out
         go_wp2_with fail
         refine (HSg1.out _ _ HE9.out).mono ?_
         rintro e w10 ⟨rfl,rfl⟩
         go_wp2_with fail
         go_roundg (m-(l+1))
         case measure=>omega
         case rel=>exact⟨l+1,R9,by omega,by omega,rfl,HE9.out⟩
end
section
open Go.RowKit
set_option linter.unusedVariables false
set_option linter.unusedSimpArgs false
theorem step_make {ops:Array Oper} {o:Oper} {a:Act} {w:World} {K:Act→World→Prop} {Q:Exit→Act→World→Prop} {E:Prop} (hgd:o.guard=none) (l c:Operand) (t e:TypeId) (ho:o.op=Op.makeSlice t l c)
  (i:TypeInfo) (z:Value) (ht:Tryz.prog.underlying t=some (.slice e)) (hi:Tryz.prog.info? e=some i) (hz:i.zero=some z) (hzc:z.cells=#[z]) (hs:i.size=1) (n:Nat) (hl:a.eval l=.int .i64 (n:Int)) (hc:a.eval c=.int .i64 (n:Int)) (hb:i.bytes*n≤281474976710656) (hn:n≤maxLen)
  {R:Reg} {B:Nat} (hB:B≤w.heap.size) (hR:R w.heap.size=none)
  (h:∀ w',OwnV R B e 1 w' (.slice (some ⟨w.heap.size,0,none⟩) n n) n (List.replicate n z)→w.grownBy w' none→K (a.put o.dst (.slice (some ⟨w.heap.size,0,none⟩) n n)) w'):
  if Region.wanted o (yielded ops a.tmps)=true then Oper.wp Tryz.prog o a w K Q else E:=by
 have hw:Region.wanted o (yielded ops a.tmps)=true:=by simp[Region.wanted,hgd]
 rw[if_pos hw]
 obtain⟨w',hrun,r1,r2⟩:=run_make_full (P:=Tryz.prog) w B t e i z 1 ht hi hz hs .i64 .i64 n hb hn hB
 unfold Oper.wp
 simp[execOp,ho,hl,hc,hrun,Result.andThen]
 exact h w' (OwnV.madeAt hR (by rw[hzc] at r1;exact r1)) r2
theorem OwnV.zeros {R:Reg} {B n:Nat} {w:World} {v:Value} (h:OwnV R B 3 1 w v n (List.replicate n (.int .i64 0))):OwnI R B 3 w v (List.replicate n 0):=by
 unfold OwnI
 rw[List.length_replicate,List.map_replicate]
 exact h
theorem OwnV.falses {R:Reg} {B n:Nat} {w:World} {v:Value} (h:OwnV R B 4 1 w v n (List.replicate n (.bool false))):OwnV R B 4 1 w v n (boolV (fun _=>false) n):=by
 have e:boolV (fun _=>false) n=List.replicate n (.bool false):=by
  refine List.ext_getElem (by simp[boolV]) fun j h1 h2=>?_
  simp[boolV]
 rw[e];exact h
theorem OwnI.new3 {R:Reg} {B:Nat} {w:World} (hB:B≤w.heap.size) (hR:R w.heap.size=none) (x y z:Int):OwnI R B 3 (w.alloc (.cells #[.int .i64 x,.int .i64 y,.int .i64 z] 3)) (.slice (some ⟨w.heap.size,0,none⟩) 3 3) [x,y,z]:=
 own_of (heap_alloc_new w _) rfl (Nat.le_refl _) (by unfold maxLen;omega) hB hR rfl (fun j hj=>by
  match j,hj with
  | 0,_=>rfl
  | 1,_=>rfl
  | 2,_=>rfl)
theorem left_new {R0 R:Reg} {w0 w:World} (he:Ev R0 w0 R w) {p:Value} {gB gG gD V:Nat} {B:List Int} {G:Nat→Bool} {D:List Int} (hB:OwnI R w0.heap.size 3 w (.slice (some ⟨gB,0,none⟩) 3 3) B) (hG:OwnV R w0.heap.size 4 1 w (.slice (some ⟨gG,0,none⟩) V V) V (boolV G V)) (hD:OwnI R w0.heap.size 3 w (.slice (some ⟨gD,0,none⟩) V V) D)
  (h1:B.length=3) (h2:D.length=V) (hV:V≤maxLen) (n1:gB≠gG) (n2:gB≠gD) (n3:gG≠gD):
  LeftOwn R0 w0 R (w.alloc (.cells #[p,.slice (some ⟨gB,0,none⟩) 3 3,.slice (some ⟨gG,0,none⟩) V V,.slice (some ⟨gD,0,none⟩) V V] 104)) w.heap.size p (some ⟨gB,0,none⟩) 3 3 (some ⟨gG,0,none⟩) V (some ⟨gD,0,none⟩) V V B G D:=by
 have b1:=(hB.lt gB rfl).2
 have b2:=(hG.lt gG rfl).2
 have b3:=(hD.lt gD rfl).2
 refine⟨he.alloc _,he.size,he.inv.none_of_ge (Nat.le_refl _),heap_alloc_new w _,hB.alloc _,h1,hG.alloc _,hD.alloc _,h2,hV,?_,?_,?_,?_,?_,?_⟩ <;> simp[Value.ownBlock] <;> omega
end
end Go.Proofs.YtgphnkkdmlohlaaGreatDoor
