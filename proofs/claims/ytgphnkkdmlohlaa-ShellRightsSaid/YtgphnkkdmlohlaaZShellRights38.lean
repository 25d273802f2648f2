/- shell.left as Order holds it: its box and its three rows, all its own. -/
import Derived.Test.YtgphnkkdmlohlaaZShellRights28
import Derived.Test.YtgphnkkdmlohlaaZShellRights37
import Derived.Test.YtgphnkkdmlohlaaZShellRights18
namespace Go.Proofs.Ytgphnkkdmlohlaa
section
open Go.RowKit
set_option linter.unusedVariables false
def boolV (G:Nat→Bool) (V:Nat):List Value:=(List.range V).map fun i=>.bool (G i)
theorem boolV_length (G:Nat→Bool) (V:Nat):(boolV G V).length=V:=by simp[boolV]
theorem boolV_at (G:Nat→Bool) {V i:Nat} (hi:i<V):(boolV G V)[i]?=some (.bool (G i)):=by simp[boolV,hi]
theorem boolV_set (G:Nat→Bool) (V v:Nat):(boolV G V).set v (.bool true)=boolV (fun i=>if i=v then true else G i) V:=by
 refine List.ext_getElem (by simp[boolV]) fun j h1 h2=>?_
 rw[List.getElem_set]
 simp only[boolV,List.getElem_map,List.getElem_range]
 by_cases e:v=j
 ·rw[if_pos e,if_pos e.symm]
 ·rw[if_neg e,if_neg (fun e2=>e e2.symm)]
structure LeftOwn (R0:Reg) (w0:World) (R:Reg) (w:World) (b:Nat) (p:Value) (ab:Option Addr) (n cb:Nat) (ag:Option Addr) (cg:Nat) (ad:Option Addr) (cd V:Nat) (B:List Int) (G:Nat→Bool) (D:List Int):Prop where
 ev:Ev R0 w0 R w
 lo:w0.heap.size≤b
 nb:R b=none
 box:w.heap[b]?=some (.cells #[p,.slice ab n cb,.slice ag V cg,.slice ad V cd] 48 (0,0))
 bor:OwnI R w0.heap.size 3 w (.slice ab n cb) B
 bl:B.length=n
 gon:OwnV R w0.heap.size 4 1 w (.slice ag V cg) V (boolV G V)
 dar:OwnI R w0.heap.size 3 w (.slice ad V cd) D
 dl:D.length=V
 vm:V≤maxLen
 d1:(Value.slice ab n cb).ownBlock≠some b
 d2:(Value.slice ag V cg).ownBlock≠some b
 d3:(Value.slice ad V cd).ownBlock≠some b
 d4:∀ k,(Value.slice ab n cb).ownBlock=some k→(Value.slice ag V cg).ownBlock≠some k
 d5:∀ k,(Value.slice ab n cb).ownBlock=some k→(Value.slice ad V cd).ownBlock≠some k
 d6:∀ k,(Value.slice ag V cg).ownBlock=some k→(Value.slice ad V cd).ownBlock≠some k
section
variable {R0 R R' : Reg} {w0 w w' : World} {b : Nat} {p : Value} {ab ag ad : Option Addr} {n cb cg cd V : Nat} {B : List Int} {G : Nat → Bool} {D : List Int}
theorem LeftOwn.step (h:LeftOwn R0 w0 R w b p ab n cb ag cg ad cd V B G D) (he:Ev R w R' w'):LeftOwn R0 w0 R' w' b p ab n cb ag cg ad cd V B G D:=
 ⟨h.ev.trans he,h.lo,he.free b (lt_of_block h.box) h.nb,(he.block b (lt_of_block h.box) h.nb).trans h.box,h.bor.ev he,h.bl,h.gon.ev he,h.dar.ev he,h.dl,h.vm,h.d1,h.d2,h.d3,h.d4,h.d5,h.d6⟩
theorem LeftOwn.left (h:LeftOwn R0 w0 R w b p ab n cb ag cg ad cd V B G D):LeftAt R w b p B V G D:=by
 refine⟨ab,cb,ag,cg,ad,cd,by rw[h.bl,h.dl];exact h.box,h.nb,by rw[h.bl];exact h.bor.free,⟨ag,cg,rfl,h.vm,fun i hi=>?_⟩,by rw[h.dl];exact h.dar.free⟩
 obtain⟨g,e,_,hR,hc,_⟩:=h.gon.headAt (i:=i) (by rw[boolV_length];exact hi)
 rw[boolV_at G hi] at hc
 exact⟨g,0,e,hR,by rw[Nat.zero_add];exact hc⟩
theorem LeftOwn.beside (h:LeftOwn R0 w0 R w b p ab n cb ag cg ad cd V B G D) {row:Option Nat} (hev:Ev R0 w0 R w') (hg:w.grownBy w' row) (k0:row≠some b) (k1:(Value.slice ab n cb).ownBlock=none∨(Value.slice ab n cb).ownBlock≠row) (k2:(Value.slice ag V cg).ownBlock=none∨(Value.slice ag V cg).ownBlock≠row) (k3:(Value.slice ad V cd).ownBlock=none∨(Value.slice ad V cd).ownBlock≠row):
  LeftOwn R0 w0 R w' b p ab n cb ag cg ad cd V B G D:=
 ⟨hev,h.lo,h.nb,(hg.block b (lt_of_block h.box) (fun e=>k0 e.symm)).trans h.box,h.bor.kept hg k1,h.bl,h.gon.kept hg k2,h.dar.kept hg k3,h.dl,h.vm,h.d1,h.d2,h.d3,h.d4,h.d5,h.d6⟩
theorem LeftOwn.mark (h:LeftOwn R0 w0 R w b p ab n cb ag cg ad cd V B G D) {g:Nat} (hg:ag=some ⟨g,0,none⟩) (v:Nat):
  LeftOwn R0 w0 R (w.setCell ⟨g,v,none⟩ (.bool true)) b p ab n cb ag cg ad cd V B (fun i=>if i=v then true else G i) D:=by
 subst hg
 have hb:b≠g:=fun e=>h.d2 (by simp[Value.ownBlock,e])
 refine⟨h.ev.setCell (p:=⟨g,v,none⟩) (h.gon.lt g rfl).1 (h.gon.2 g rfl) _,h.lo,h.nb,by rw[Below.heap_setCell _ _ _ _ hb];exact h.box,h.bor.setCell (fun e=>h.d4 g e rfl) _,h.bl,?_,h.dar.setCell (fun e=>h.d6 g rfl e) _,h.dl,h.vm,h.d1,h.d2,h.d3,h.d4,h.d5,h.d6⟩
 rw[←boolV_set]
 exact h.gon.put v _
theorem LeftOwn.dart (h:LeftOwn R0 w0 R w b p ab n cb ag cg ad cd V B G D) {g:Nat} (hg:ad=some ⟨g,0,none⟩) {v:Nat} (hv:v<V) (d:Int):
  LeftOwn R0 w0 R (w.setCell ⟨g,v,none⟩ (.int .i64 d)) b p ab n cb ag cg ad cd V B G (D.set v d):=by
 subst hg
 have hb:b≠g:=fun e=>h.d3 (by simp[Value.ownBlock,e])
 exact⟨h.ev.setCell (p:=⟨g,v,none⟩) (h.dar.lt g rfl).1 (h.dar.2 g rfl) _,h.lo,h.nb,by rw[Below.heap_setCell _ _ _ _ hb];exact h.box,h.bor.setCell (fun e=>h.d5 g e rfl) _,h.bl,h.gon.setCell (fun e=>h.d6 g e rfl) _,h.dar.put h.dl v hv d,by rw[List.length_set];exact h.dl,h.vm,h.d1,h.d2,h.d3,h.d4,h.d5,h.d6⟩
theorem LeftOwn.replaced (h:LeftOwn R0 w0 R w b p ab n cb ag cg ad cd V B G D) (hev:Ev R0 w0 R w') (hg:w.grownBy w' (Value.slice ab n cb).ownBlock) {a2:Option Addr} {n2 c2:Nat} {B2:List Int} (ho:OwnI R w0.heap.size 3 w' (.slice a2 n2 c2) B2) (hl:B2.length=n2)
  (hs:∀ k,(Value.slice a2 n2 c2).ownBlock=some k→(Value.slice ab n cb).ownBlock=some k∨w.heap.size≤k):
  LeftOwn R0 w0 R (w'.setCell ⟨b,1,none⟩ (.slice a2 n2 c2)) b p a2 n2 c2 ag cg ad cd V B2 G D:=by
 have hb':w'.heap[b]?=some (.cells #[p,.slice ab n cb,.slice ag V cg,.slice ad V cd] 48 (0,0)):=(hg.block b (lt_of_block h.box) (fun e=>h.d1 e.symm)).trans h.box
 have hgk:(Value.slice ag V cg).ownBlock=none∨(Value.slice ag V cg).ownBlock≠(Value.slice ab n cb).ownBlock:=by
  cases e:(Value.slice ag V cg).ownBlock with
  | none=>exact .inl rfl
  | some k=>exact .inr (fun e2=>h.d4 k e2.symm e)
 have hdk:(Value.slice ad V cd).ownBlock=none∨(Value.slice ad V cd).ownBlock≠(Value.slice ab n cb).ownBlock:=by
  cases e:(Value.slice ad V cd).ownBlock with
  | none=>exact .inl rfl
  | some k=>exact .inr (fun e2=>h.d5 k e2.symm e)
 have new:∀ k,(Value.slice a2 n2 c2).ownBlock=some k→k≠b∧(Value.slice ag V cg).ownBlock≠some k∧(Value.slice ad V cd).ownBlock≠some k:=fun k hk=>by
  rcases hs k hk with q|q
  ·exact⟨fun e=>h.d1 (by rw[q,e]),h.d4 k q,h.d5 k q⟩
  ·have hbl:=lt_of_block h.box
   exact⟨by omega,fun e=>by have:=(h.gon.lt k e).2;omega,fun e=>by have:=(h.dar.lt k e).2;omega⟩
 refine⟨hev.setCell (p:=⟨b,1,none⟩) h.lo h.nb _,h.lo,h.nb,?_,ho.setCell (fun e=>(new b e).1 rfl) _,hl,(h.gon.kept hg hgk).setCell h.d2 _,(h.dar.kept hg hdk).setCell h.d3 _,h.dl,h.vm,fun e=>(new b e).1 rfl,h.d2,h.d3,fun k hk=>(new k hk).2.1,fun k hk=>(new k hk).2.2,h.d6⟩
 rw[heap_setCell_same _ _ _ _ _ _ hb']
 rfl
end
end
section
open Go.RowKit
set_option linter.unusedVariables false
set_option linter.unusedSimpArgs false
theorem step_make {ops:Array Oper} {o:Oper} {a:Act} {w:World} {K:Act→World→Prop} {Q:Exit→Act→World→Prop} {E:Prop} (hgd:o.guard=none) (l c:Operand) (t e:TypeId) (ho:o.op=Op.makeSlice t l c)
  (i:TypeInfo) (z:Value) (ht:Try.prog.underlying t=some (.slice e)) (hi:Try.prog.info? e=some i) (hz:i.zero=some z) (hzc:z.cells=#[z]) (hs:i.size=1) (n:Nat) (hl:a.eval l=.int .i64 (n:Int)) (hc:a.eval c=.int .i64 (n:Int)) (hb:i.bytes*n≤281474976710656) (hn:n≤maxLen)
  {R:Reg} {B:Nat} (hB:B≤w.heap.size) (hR:R w.heap.size=none)
  (h:∀ w',OwnV R B e 1 w' (.slice (some ⟨w.heap.size,0,none⟩) n n) n (List.replicate n z)→w.grownBy w' none→K (a.put o.dst (.slice (some ⟨w.heap.size,0,none⟩) n n)) w'):
  if Region.wanted o (yielded ops a.tmps)=true then Oper.wp Try.prog o a w K Q else E:=by
 have hw:Region.wanted o (yielded ops a.tmps)=true:=by simp[Region.wanted,hgd]
 rw[if_pos hw]
 obtain⟨w',hrun,r1,r2⟩:=run_make_full (P:=Try.prog) w B t e i z 1 ht hi hz hs .i64 .i64 n hb hn hB
 unfold Oper.wp
 simp[execOp,ho,hl,hc,hrun,Result.andThen]
 exact h w' (OwnV.madeAt hR (by rw[hzc] at r1;exact r1)) r2
theorem OwnV.zeros {R:Reg} {B n:Nat} {w:World} {v:Value} (h:OwnV R B 3 1 w v n (List.replicate n (.int .i64 0))):OwnI R B 3 w v (List.replicate n 0):=by
 unfold OwnI
 rw[List.length_replicate,List.map_replicate]
 exact h
theorem OwnV.falses {R:Reg} {B n:Nat} {w:World} {v:Value} (h:OwnV R B 4 1 w v n (List.replicate n (.bool false))):OwnV R B 4 1 w v n (boolV (fun _=>false) n):=by
 have e:boolV (fun _=>false) n=List.replicate n (.bool false):=by
  refine List.ext_getElem (by simp[boolV]) fun j h1 h2=>?_
  simp[boolV]
 rw[e];exact h
theorem OwnI.new3 {R:Reg} {B:Nat} {w:World} (hB:B≤w.heap.size) (hR:R w.heap.size=none) (x y z:Int):OwnI R B 3 (w.alloc (.cells #[.int .i64 x,.int .i64 y,.int .i64 z] 3)) (.slice (some ⟨w.heap.size,0,none⟩) 3 3) [x,y,z]:=
 own_of (heap_alloc_new w _) rfl (Nat.le_refl _) (by unfold maxLen;omega) hB hR rfl (fun j hj=>by
  match j,hj with
  | 0,_=>rfl
  | 1,_=>rfl
  | 2,_=>rfl)
theorem left_new {R0 R:Reg} {w0 w:World} (he:Ev R0 w0 R w) {p:Value} {gB gG gD V:Nat} {B:List Int} {G:Nat→Bool} {D:List Int} (hB:OwnI R w0.heap.size 3 w (.slice (some ⟨gB,0,none⟩) 3 3) B) (hG:OwnV R w0.heap.size 4 1 w (.slice (some ⟨gG,0,none⟩) V V) V (boolV G V)) (hD:OwnI R w0.heap.size 3 w (.slice (some ⟨gD,0,none⟩) V V) D)
  (h1:B.length=3) (h2:D.length=V) (hV:V≤maxLen) (n1:gB≠gG) (n2:gB≠gD) (n3:gG≠gD):
  LeftOwn R0 w0 R (w.alloc (.cells #[p,.slice (some ⟨gB,0,none⟩) 3 3,.slice (some ⟨gG,0,none⟩) V V,.slice (some ⟨gD,0,none⟩) V V] 48)) w.heap.size p (some ⟨gB,0,none⟩) 3 3 (some ⟨gG,0,none⟩) V (some ⟨gD,0,none⟩) V V B G D:=by
 have b1:=(hB.lt gB rfl).2
 have b2:=(hG.lt gG rfl).2
 have b3:=(hD.lt gD rfl).2
 refine⟨he.alloc _,he.size,he.inv.none_of_ge (Nat.le_refl _),heap_alloc_new w _,hB.alloc _,h1,hG.alloc _,hD.alloc _,h2,hV,?_,?_,?_,?_,?_,?_⟩ <;> simp[Value.ownBlock] <;> omega
end
end Go.Proofs.Ytgphnkkdmlohlaa
