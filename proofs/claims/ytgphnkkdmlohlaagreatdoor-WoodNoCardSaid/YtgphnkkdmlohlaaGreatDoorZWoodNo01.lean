/- What every walk of this seat leans on: the registry of blocks that are never written by a client, the world's evolution, lists of integers in memory. -/
import Derived.WalkKit
import Derived.WalkSpells
import Derived.WalkLawsBesides
import Derived.Lib.Hide
import Derived.Deep.Draws
namespace Go.Proofs.YtgphnkkdmlohlaaGreatDoor
section
open Go.RowKit
set_option linter.unusedVariables false
def IsPerm (s:List Nat):Prop:=s.Nodup∧∀ x,x∈s→x<s.length
def toI (s:List Nat):List Int:=s.map fun (x:Nat)=>(x:Int)
def at' (s:List Nat) (i:Nat):Nat:=s.getD i 0
def nth (xs:List Int) (i:Nat):Int:=xs.getD i 0
def invGo (s:List Nat) (k:Nat):List Nat:=(List.range k).foldl (fun l i=>l.set (at' s i) i) (List.replicate s.length 0)
def invL (s:List Nat):List Nat:=invGo s s.length
def orbitGo (s:List Nat) (i:Nat):Nat→Nat→List Nat
 | 0,_=>[]
 | f+1,x=>if x=i then [] else x :: orbitGo s i f (at' s x)
def orbitL (s:List Nat) (i:Nat):List Nat:=i :: orbitGo s i s.length (at' s i)
def nameStep (s:List Nat) (st:List Int × Nat) (i:Nat):List Int × Nat:=
 if 0≤st.1.getD i (-1) then st else ((orbitL s i).foldl (fun l x=>l.set x (st.2:Int)) st.1,st.2+1)
def namesGo (s:List Nat) (k:Nat):List Int × Nat:=(List.range k).foldl (nameStep s) (List.replicate s.length (-1),0)
def namesL (s:List Nat):List Int:=(namesGo s s.length).1
def sizeStep (l:List Int) (k:Int):List Int:=
 let m:=if k=l.length then l ++ [0] else l
 m.set k.toNat (m.getD k.toNat 0+1)
def sizesL (s:List Nat):List Int:=(namesL s).foldl sizeStep []
def phiL (s:List Nat):List Nat:=(List.range s.length).map fun d=>at' s (d ^^^ 1)
def MapOk (s:List Nat) (root lone:Int):Prop:=s.length % 2=0∧s.length≤131073∧0≤lone∧lone≤65536∧((s.length=0∧root=-1)∨(0≤root∧root<s.length))
abbrev Kind:=Obj ⊕ List Nat ⊕ (List Nat × Int × Int)
abbrev Reg:=Nat→Option Kind
def FixI (R:Reg) (v:Value) (xs:List Int):Prop:=
 ∃ a cap,v=.slice a xs.length cap∧xs.length≤cap∧cap≤maxLen∧∀ i,i<xs.length→∃ b off c T f,a=some ⟨b,off,none⟩∧R b=some (.inl (.cells c T f))∧c[off+i]?=some (.int .i64 (nth xs i))
def nilS:Value:=.slice none 0 0
def NamesOk (R:Reg) (s:List Nat) (d:Int) (vof vsz:Value):Prop:=
 (d=0∧vof=nilS∧vsz=nilS)∨(d=1∧FixI R vof (namesL s)∧FixI R vsz (sizesL s))
def KindOk (R:Reg) (w:World) (k:Nat):Kind→Prop
 | .inl o=>w.heap[k]?=some o
 | .inr (.inl s)=>IsPerm s∧s.length≤4194304∧∃ vto T d vfrom,w.heap[k]?=some (.cells #[vto,.int .u32 d,.int .i32 0,.int .u32 0,vfrom] T (0,0))∧FixI R vto (toI s) ∧
   ((d=0∧vfrom=nilS)∨(d=1∧FixI R vfrom (toI (invL s))))
 | .inr (.inr (s,root,lone))=>IsPerm s∧s.length≤4194304∧MapOk s root lone∧∃ bp bq T d e v1 v2 u1 u2,
   w.heap[k]?=some (.cells #[.pointer (some ⟨bp,0,none⟩),.int .u32 d,.int .i32 0,.int .u32 0,v1,v2,.pointer (some ⟨bq,0,none⟩),.int .u32 e,.int .i32 0,.int .u32 0,u1,u2,.int .i64 root,.int .i64 lone] T (0,0)) ∧
   R bp=some (.inr (.inl s))∧R bq=some (.inr (.inl (phiL s)))∧NamesOk R s d v1 v2∧NamesOk R (phiL s) e u1 u2
def Inv (R:Reg) (w:World):Prop:=∀ k r,R k=some r→KindOk R w k r
structure Ev (R:Reg) (w:World) (R':Reg) (w':World):Prop where
 os:w'.os=w.os
 tape:w'.tape=w.tape
 output:w'.output=w.output
 size:w.heap.size≤w'.heap.size
 block:∀ k,k<w.heap.size→R k=none→w'.heap[k]?=w.heap[k]?
 reg:∀ k r,R k=some r→R' k=some r
 free:∀ k,k<w.heap.size→R k=none→R' k=none
 inv:Inv R' w'
theorem FixI.mono {R R':Reg} (h:∀ k r,R k=some r→R' k=some r) {v:Value} {xs:List Int} (hf:FixI R v xs):FixI R' v xs:=by
 obtain⟨a,cap,h1,h2,h3,h4⟩:=hf
 refine⟨a,cap,h1,h2,h3,fun i hi=>?_⟩
 obtain⟨b,off,c,T,f,e1,e2,e3⟩:=h4 i hi
 exact⟨b,off,c,T,f,e1,h _ _ e2,e3⟩
theorem NamesOk.mono {R R':Reg} (h:∀ k r,R k=some r→R' k=some r) {s:List Nat} {d:Int} {v u:Value} (hn:NamesOk R s d v u):NamesOk R' s d v u:=by
 rcases hn with hn|⟨h1,h2,h3⟩
 ·exact Or.inl hn
 ·exact Or.inr ⟨h1,h2.mono h,h3.mono h⟩
theorem KindOk.lt {R:Reg} {w:World} {k:Nat} {r:Kind} (h:KindOk R w k r):k<w.heap.size:=by
 have key:∀ o,w.heap[k]?=some o→k<w.heap.size:=fun o ho=>by
  rcases Nat.lt_or_ge k w.heap.size with h'|h'
  ·exact h'
  ·rw[Array.getElem?_eq_none h'] at ho;cases ho
 rcases r with o|s|⟨s,root,lone⟩
 ·exact key _ h
 ·obtain⟨_,_,_,_,_,_,ho,_⟩:=h;exact key _ ho
 ·obtain⟨_,_,_,_,_,_,_,_,_,_,_,_,ho,_⟩:=h;exact key _ ho
theorem KindOk.mono {R R':Reg} {w w':World} {k:Nat} {r:Kind} (h:KindOk R w k r) (hr:∀ k r,R k=some r→R' k=some r) (hb:w'.heap[k]?=w.heap[k]?):KindOk R' w' k r:=by
 rcases r with o|s|⟨s,root,lone⟩
 ·exact hb.trans h
 ·obtain⟨h1,h2,vto,T,d,vf,ho,h3,h4⟩:=h
  refine⟨h1,h2,vto,T,d,vf,hb.trans ho,h3.mono hr,?_⟩
  rcases h4 with h4|⟨h4,h5⟩
  ·exact Or.inl h4
  ·exact Or.inr ⟨h4,h5.mono hr⟩
 ·obtain⟨h1,h2,h2',bp,bq,T,d,e,v1,v2,u1,u2,ho,h3,h4,h5,h6⟩:=h
  exact⟨h1,h2,h2',bp,bq,T,d,e,v1,v2,u1,u2,hb.trans ho,hr _ _ h3,hr _ _ h4,h5.mono hr,h6.mono hr⟩
theorem Ev.refl {R:Reg} {w:World} (h:Inv R w):Ev R w R w:=⟨rfl,rfl,rfl,Nat.le_refl _,fun _ _ _=>rfl,fun _ _ h=>h,fun _ _ h=>h,h⟩
theorem Ev.trans {R R1 R2:Reg} {w w1 w2:World} (h:Ev R w R1 w1) (k:Ev R1 w1 R2 w2):Ev R w R2 w2:=
 ⟨k.os.trans h.os,k.tape.trans h.tape,k.output.trans h.output,Nat.le_trans h.size k.size,
  fun i hi hr=>(k.block i (Nat.lt_of_lt_of_le hi h.size) (h.free i hi hr)).trans (h.block i hi hr),
  fun i r hr=>k.reg _ _ (h.reg _ _ hr),fun i hi hr=>k.free i (Nat.lt_of_lt_of_le hi h.size) (h.free i hi hr),k.inv⟩
theorem Inv.alloc {R:Reg} {w:World} (h:Inv R w) (o:Obj):Inv R (w.alloc o):=
 fun k r hr=>(h k r hr).mono (fun _ _ h=>h) (Below.heap_alloc _ _ _ (h k r hr).lt)
theorem Inv.drew {R:Reg} {w:World} (h:Inv R w):Inv R w.drew:=fun k r hr=>(h k r hr).mono (fun _ _ h=>h) rfl
theorem Inv.setCell {R:Reg} {w:World} (h:Inv R w) {p:Addr} (hp:R p.block=none) (u:Value):Inv R (w.setCell p u):=
 fun k r hr=>(h k r hr).mono (fun _ _ h=>h) (Below.heap_setCell _ _ _ _ (fun e=>by rw[e,hp] at hr;cases hr))
theorem Inv.none_of_ge {R:Reg} {w:World} (h:Inv R w) {k:Nat} (hk:w.heap.size≤k):R k=none:=by
 cases hr:R k with
 | none=>rfl
 | some r=>have:=(h k r hr).lt;omega
theorem Ev.alloc {R R1:Reg} {w w1:World} (h:Ev R w R1 w1) (o:Obj):Ev R w R1 (w1.alloc o):=
 h.trans ⟨rfl,rfl,rfl,by simp,fun k hk _=>Below.heap_alloc _ _ _ hk,fun _ _ h=>h,fun _ _ h=>h,h.inv.alloc o⟩
theorem Ev.drew {R R1:Reg} {w w1:World} (h:Ev R w R1 w1):Ev R w R1 w1.drew:=
 h.trans ⟨rfl,rfl,rfl,Nat.le_refl _,fun _ _ _=>rfl,fun _ _ h=>h,fun _ _ h=>h,h.inv.drew⟩
theorem Ev.setCell {R R1:Reg} {w w1:World} (h:Ev R w R1 w1) {p:Addr} (hb:w.heap.size≤p.block) (hp:R1 p.block=none) (u:Value):Ev R w R1 (w1.setCell p u):=
 ⟨h.os,h.tape,h.output,by simpa using h.size,fun k hk hr=>by rw[Below.heap_setCell _ _ _ _ (by omega)];exact h.block k hk hr,h.reg,h.free,h.inv.setCell hp u⟩
theorem Ev.grown {R R1:Reg} {w w1 w2:World} {row:Option Nat} (h:Ev R w R1 w1) (hg:w1.grownBy w2 row) (hr:∀ k,row=some k→w.heap.size≤k∧R1 k=none):Ev R w R1 w2:=
 ⟨hg.os.trans h.os,hg.tape.trans h.tape,hg.output.trans h.output,Nat.le_trans h.size hg.size,
  fun k hk hn=>(hg.block k (Nat.lt_of_lt_of_le hk h.size) (fun e=>by have:=hr k e.symm;omega)).trans (h.block k hk hn),h.reg,h.free,
  fun k r hk=>(h.inv k r hk).mono (fun _ _ h=>h) (hg.block k (h.inv k r hk).lt (fun e=>by rw[(hr k e.symm).2] at hk;cases hk))⟩
theorem Ev.of_below {R:Reg} {w w1:World} (hI:Inv R w) (h:Below w.heap.size w w1):Ev R w R w1:=
 ⟨h.os,h.tape,h.output,h.size,fun k hk _=>h.block k hk,fun _ _ h=>h,fun _ _ h=>h,
  fun k r hr=>(hI k r hr).mono (fun _ _ h=>h) (h.block k (hI k r hr).lt)⟩
def noReg:Reg:=fun _=>none
theorem Inv.noReg (w:World):Inv noReg w:=fun k r h=>by cases h
theorem Ev.below {R:Reg} {w w1:World} (h:Ev noReg w R w1):Below w.heap.size w w1:=⟨h.os,h.tape,h.output,h.size,fun k hk=>h.block k hk rfl⟩
theorem Ev.cell {R R1:Reg} {w w1:World} (h:Ev R w R1 w1) {b o:Nat} (hb:b<w.heap.size) (hr:R b=none):w1.cell? ⟨b,o,none⟩=w.cell? ⟨b,o,none⟩:=
 World.cell?_of_block (w:=w) (h.block b hb hr)
theorem lt_of_block {w:World} {b:Nat} {o:Obj} (h:w.heap[b]?=some o):b<w.heap.size:=by
 rcases Nat.lt_or_ge b w.heap.size with h'|h'
 ·exact h'
 ·rw[Array.getElem?_eq_none h'] at h;cases h
theorem lt_of_cell {w:World} {b o:Nat} {v:Value} (h:w.cell? ⟨b,o,none⟩=some v):b<w.heap.size:=by
 rcases Nat.lt_or_ge b w.heap.size with h'|h'
 ·exact h'
 ·simp[World.cell?,Array.getElem?_eq_none h'] at h
def Reg.put (R:Reg) (b:Nat) (r:Kind):Reg:=fun k=>if k=b then some r else R k
theorem Reg.put_same (R:Reg) (b:Nat) (r:Kind):R.put b r b=some r:=by simp[Reg.put]
theorem Reg.put_keeps {R:Reg} {b:Nat} (r:Kind) (hb:R b=none):∀ k x,R k=some x→R.put b r k=some x:=fun k x h=>by
 unfold Reg.put
 split
 ·rename_i e;rw[e,hb] at h;cases h
 ·exact h
theorem Ev.put {R R1:Reg} {w w1:World} (h:Ev R w R1 w1) {b:Nat} (r:Kind) (hb:w.heap.size≤b) (hn:R1 b=none) (hk:KindOk R1 w1 b r):Ev R w (R1.put b r) w1:=
 ⟨h.os,h.tape,h.output,h.size,h.block,fun k x hx=>Reg.put_keeps r hn k x (h.reg k x hx),fun k hk hr=>by
   unfold Reg.put
   rw[if_neg (by omega)]
   exact h.free k hk hr,
  fun k x hx=>by
   unfold Reg.put at hx
   split at hx
   ·rename_i e
    cases hx
    subst e
    exact hk.mono (Reg.put_keeps _ hn) rfl
   ·exact (h.inv k x hx).mono (Reg.put_keeps r hn) rfl⟩
def Ints (w:World) (v:Value) (xs:List Int):Prop:=
 ∃ a cap,v=.slice a xs.length cap∧xs.length≤cap∧cap≤maxLen∧∀ i,i<xs.length→∃ b off,a=some ⟨b,off,none⟩∧w.cell? ⟨b,off+i,none⟩=some (.int .i64 (nth xs i))
theorem FixI.ints {R:Reg} {v:Value} {xs:List Int} (h:FixI R v xs) {w:World} (hI:Inv R w):Ints w v xs:=by
 obtain⟨a,cap,h1,h2,h3,h4⟩:=h
 refine⟨a,cap,h1,h2,h3,fun i hi=>?_⟩
 obtain⟨b,off,c,T,f,e1,e2,e3⟩:=h4 i hi
 have hb:w.heap[b]?=some (.cells c T f):=hI _ _ e2
 exact⟨b,off,e1,by simp[World.cell?,hb,e3]⟩
theorem Ints.nil (w:World):Ints w nilS []:=⟨none,0,rfl,Nat.le_refl _,by simp[maxLen],fun i hi=>by simp at hi⟩
def FreeI (R:Reg) (w:World) (v:Value) (xs:List Int):Prop:=
 Ints w v xs∧(xs=[]∨∃ b off n cap,v=.slice (some ⟨b,off,none⟩) n cap∧R b=none)
theorem FreeI.ev {R R1:Reg} {w w1:World} {v:Value} {xs:List Int} (h:FreeI R w v xs) (he:Ev R w R1 w1):FreeI R1 w1 v xs:=by
 obtain⟨⟨a,cap,h1,h2,h3,h4⟩,hf⟩:=h
 rcases hf with rfl|⟨b,off,n,cap',hv,hb⟩
 ·exact⟨⟨a,cap,h1,h2,h3,fun i hi=>by simp at hi⟩,Or.inl rfl⟩
 ·rw[h1] at hv
  cases hv
  rcases xs with _|⟨x,xs⟩
  ·exact⟨⟨_,cap,h1,h2,h3,fun i hi=>by simp at hi⟩,Or.inl rfl⟩
  ·have hlt:b<w.heap.size:=by
    obtain⟨b',off',e,hc⟩:=h4 0 (by simp)
    cases e
    exact lt_of_cell hc
   refine⟨⟨_,cap,h1,h2,h3,fun i hi=>?_⟩,Or.inr ⟨b,off,_,cap,h1,he.free b hlt hb⟩⟩
   obtain⟨b',off',e,hc⟩:=h4 i hi
   cases e
   exact⟨b,off,rfl,(he.cell hlt hb).trans hc⟩
def OwnI (R:Reg) (B:Nat) (E:TypeId) (w:World) (v:Value) (xs:List Int):Prop:=
 w.ownsRow B E 1 v xs.length (xs.map (Value.int .i64))∧∀ k,v.ownBlock=some k→R k=none
theorem OwnI.nil (R:Reg) (B:Nat) (E:TypeId) (w:World):OwnI R B E w nilS []:=⟨World.ownsRow_nil w B E 1,fun k h=>by simp[nilS,Value.ownBlock] at h⟩
theorem OwnI.mono {R:Reg} {B B':Nat} {E:TypeId} {w:World} {v:Value} {xs:List Int} (h:OwnI R B E w v xs) (hB:B'≤B):OwnI R B' E w v xs:=by
 obtain⟨⟨h1,h2⟩,h3⟩:=h
 refine⟨⟨h1,?_⟩,h3⟩
 rcases h2 with h2|⟨g,cap,cur,hv,hg,r⟩
 ·exact Or.inl h2
 ·exact Or.inr ⟨g,cap,cur,hv,by omega,r⟩
theorem OwnI.ev {R R1:Reg} {B:Nat} {E:TypeId} {w w1:World} {v:Value} {xs:List Int} (h:OwnI R B E w v xs) (he:Ev R w R1 w1):OwnI R1 B E w1 v xs:=by
 obtain⟨⟨h1,h2⟩,h3⟩:=h
 rcases h2 with h2|⟨g,cap,cur,hv,hg,hh,r⟩
 ·exact⟨⟨h1,Or.inl h2⟩,fun k hk=>by rw[h2.1] at hk;simp[Value.ownBlock] at hk⟩
 ·have hn:R g=none:=h3 g (by rw[hv];rfl)
  refine⟨⟨h1,Or.inr ⟨g,cap,cur,hv,hg,by rw[he.block g (lt_of_block hh) hn];exact hh,r⟩⟩,fun k hk=>?_⟩
  rw[hv] at hk
  cases hk
  exact he.free g (lt_of_block hh) hn
theorem OwnI.lt {R:Reg} {B:Nat} {E:TypeId} {w:World} {v:Value} {xs:List Int} (h:OwnI R B E w v xs):∀ k,v.ownBlock=some k→B≤k∧k<w.heap.size:=h.1.lt
theorem OwnI.ints {R:Reg} {B:Nat} {E:TypeId} {w:World} {v:Value} {xs:List Int} (h:OwnI R B E w v xs):Ints w v xs:=by
 obtain⟨⟨h1,h2⟩,h3⟩:=h
 rcases h2 with ⟨h2,hn⟩|⟨g,cap,cur,hv,hg,hh,hn,hm,hs,ht⟩
 ·have:xs=[]:=List.length_eq_zero_iff.1 hn
  subst this
  exact h2 ▸ Ints.nil w
 ·refine⟨_,cap,hv,hn,hm,fun i hi=>⟨g,0,rfl,?_⟩⟩
  have hx:(xs.map (Value.int .i64))[i]?=some (.int .i64 (nth xs i)):=by simp[nth,hi]
  rw[←ht] at hx
  simp only[World.cell?,hh,Nat.zero_add]
  rw[List.getElem?_take] at hx
  split at hx
  ·simpa using hx
  ·cases hx
theorem OwnI.free {R:Reg} {B:Nat} {E:TypeId} {w:World} {v:Value} {xs:List Int} (h:OwnI R B E w v xs):FreeI R w v xs:=by
 refine⟨h.ints,?_⟩
 obtain⟨⟨h1,h2⟩,h3⟩:=h
 rcases h2 with ⟨h2,hn⟩|⟨g,cap,cur,hv,hg,r⟩
 ·exact Or.inl (List.length_eq_zero_iff.1 hn)
 ·exact Or.inr ⟨g,0,_,cap,hv,h3 g (by rw[hv];rfl)⟩
theorem OwnI.fix {R R1:Reg} {w w1:World} {B:Nat} {E:TypeId} {v:Value} {xs:List Int} (he:Ev R w R1 w1) (hB:w.heap.size≤B) (h:OwnI R1 B E w1 v xs):
  ∃ R2,Ev R w R2 w1∧FixI R2 v xs∧(∀ k r,R1 k=some r→R2 k=some r)∧(∀ k,R1 k=none→v.ownBlock≠some k→R2 k=none):=by
 have hi:=h.ints
 obtain⟨⟨h1,h2⟩,h3⟩:=h
 rcases h2 with ⟨h2,hn⟩|⟨g,cap,cur,hv,hg,hh,hn,hm,hs,ht⟩
 ·have:xs=[]:=List.length_eq_zero_iff.1 hn
  subst this
  refine⟨R1,he,⟨none,0,h2,Nat.le_refl _,by simp[maxLen],fun i hi=>by simp at hi⟩,fun _ _ h=>h,fun _ h _=>h⟩
 ·have hnn:=h3 g (by rw[hv];rfl)
  refine⟨R1.put g (.inl (.cells cur E (0,0))),he.put _ (by omega) hnn hh,⟨_,cap,hv,hn,hm,fun i hi=>?_⟩,Reg.put_keeps _ hnn,fun k hk hne=>?_⟩
  ·refine⟨g,0,cur,E,(0,0),rfl,Reg.put_same _ _ _,?_⟩
   have hx:(xs.map (Value.int .i64))[i]?=some (.int .i64 (nth xs i)):=by simp[nth,hi]
   rw[←ht,List.getElem?_take] at hx
   split at hx
   ·simpa using hx
   ·cases hx
  ·unfold Reg.put
   rw[if_neg (fun e=>hne (by rw[hv,e];rfl))]
   exact hk
theorem OwnI.kept {R:Reg} {B:Nat} {E:TypeId} {w w1:World} {row:Option Nat} {v:Value} {xs:List Int} (h:OwnI R B E w v xs) (hg:w.grownBy w1 row) (hne:v.ownBlock=none∨v.ownBlock≠row):OwnI R B E w1 v xs:=
 ⟨h.1.kept hg hne,h.2⟩
theorem OwnI.alloc {R:Reg} {B:Nat} {E:TypeId} {w:World} {v:Value} {xs:List Int} (h:OwnI R B E w v xs) (o:Obj):OwnI R B E (w.alloc o) v xs:=⟨h.1.alloc o,h.2⟩
theorem OwnI.drew {R:Reg} {B:Nat} {E:TypeId} {w:World} {v:Value} {xs:List Int} (h:OwnI R B E w v xs):OwnI R B E w.drew v xs:=h
theorem OwnI.setCell {R:Reg} {B:Nat} {E:TypeId} {w:World} {v:Value} {xs:List Int} (h:OwnI R B E w v xs) {a:Addr} (ha:v.ownBlock≠some a.block) (u:Value):OwnI R B E (w.setCell a u) v xs:=by
 obtain⟨⟨h1,h2⟩,h3⟩:=h
 refine⟨⟨h1,?_⟩,h3⟩
 rcases h2 with h2|⟨g,cap,cur,hv,hg,hh,r⟩
 ·exact Or.inl h2
 ·refine Or.inr ⟨g,cap,cur,hv,hg,?_,r⟩
  rw[Below.heap_setCell _ _ _ _ (fun e=>ha (by rw[hv,←e];rfl))]
  exact hh
theorem FreeI.setCell {R:Reg} {w:World} {v:Value} {xs:List Int} (h:FreeI R w v xs) {a:Addr} (ha:v.ownBlock≠some a.block) (u:Value):FreeI R (w.setCell a u) v xs:=by
 obtain⟨⟨a',cap,h1,h2,h3,h4⟩,hf⟩:=h
 refine⟨⟨a',cap,h1,h2,h3,fun i hi=>?_⟩,hf⟩
 obtain⟨b,off,e,hc⟩:=h4 i hi
 subst e
 refine⟨b,off,rfl,?_⟩
 rw[World.cell?_setCell_other _ _ _ _ (fun e=>ha (by rw[h1,e];rfl))]
 exact hc
theorem map_set_int (xs:List Int) (i:Nat) (y:Int):(xs.map (Value.int .i64)).set i (.int .i64 y)=(xs.set i y).map (Value.int .i64):=by simp
theorem OwnI.head {R:Reg} {B:Nat} {E:TypeId} {w:World} {v:Value} {xs:List Int} (h:OwnI R B E w v xs) {i:Nat} (hi:i<xs.length):
  ∃ g cap,v=.slice (some ⟨g,0,none⟩) xs.length cap∧B≤g∧R g=none∧w.cell? ⟨g,i,none⟩=some (.int .i64 (nth xs i))∧w.frozen? ⟨g,i,none⟩=false:=by
 have hI:=h.ints
 obtain⟨⟨h1,h2⟩,h3⟩:=h
 rcases h2 with ⟨h2,hn⟩|⟨g,cap,cur,hv,hg,hh,hn,hm,hs,ht⟩
 ·omega
 ·refine⟨g,cap,hv,hg,h3 g (by rw[hv];rfl),?_,by simp[World.frozen?,hh]⟩
  obtain⟨a',cap',e,_,_,h4⟩:=hI
  rw[hv] at e
  cases e
  obtain⟨b,off,e,hc⟩:=h4 i hi
  cases e
  simpa using hc
theorem OwnI.store {R:Reg} {B:Nat} {E:TypeId} {w:World} {g cap:Nat} {xs:List Int} (h:OwnI R B E w (.slice (some ⟨g,0,none⟩) xs.length cap) xs) (i:Nat) (hi:i<xs.length) (y:Int):
  OwnI R B E (w.setCell ⟨g,i,none⟩ (.int .i64 y)) (.slice (some ⟨g,0,none⟩) xs.length cap) (xs.set i y):=by
 have:=(h.1.stored i (.int .i64 y)).1
 rw[map_set_int] at this
 refine⟨?_,h.2⟩
 rw[List.length_set]
 exact this
theorem OwnI.put {R:Reg} {B:Nat} {E:TypeId} {w:World} {g n cap:Nat} {xs:List Int} (h:OwnI R B E w (.slice (some ⟨g,0,none⟩) n cap) xs) (hn:xs.length=n) (i:Nat) (hi:i<n) (y:Int):
  OwnI R B E (w.setCell ⟨g,i,none⟩ (.int .i64 y)) (.slice (some ⟨g,0,none⟩) n cap) (xs.set i y):=by
 subst hn
 exact h.store i hi y
theorem OwnI.headAt {R:Reg} {B:Nat} {E:TypeId} {w:World} {a:Option Addr} {n cap:Nat} {xs:List Int} (h:OwnI R B E w (.slice a n cap) xs) (hn:xs.length=n) {i:Nat} (hi:i<n):
  ∃ g,a=some ⟨g,0,none⟩∧B≤g∧R g=none∧w.cell? ⟨g,i,none⟩=some (.int .i64 (nth xs i))∧w.frozen? ⟨g,i,none⟩=false:=by
 obtain⟨g,cap',e,h1,h2,h3,h4⟩:=h.head (i:=i) (by omega)
 cases e
 exact⟨g,rfl,h1,h2,h3,h4⟩
theorem Ev.drewN {R R1:Reg} {w w1:World} (h:Ev R w R1 w1) (n:Nat):Ev R w R1 (w1.drewN n):=
 h.trans ⟨rfl,rfl,rfl,Nat.le_refl _,fun _ _ _=>rfl,fun _ _ h=>h,fun _ _ h=>h,fun k r hr=>(h.inv k r hr).mono (fun _ _ h=>h) rfl⟩
theorem ext_nth {xs ys:List Int} (h:xs.length=ys.length) (hk:∀ j,j<xs.length→nth xs j=nth ys j):xs=ys:=by
 refine List.ext_getElem h fun i h1 h2=>?_
 have:=hk i h1
 simpa [nth,h1,h2] using this
theorem Ints.length_eq {w:World} {a:Option Addr} {n cap:Nat} {xs:List Int} (h:Ints w (.slice a n cap) xs):n=xs.length:=by
 obtain⟨_,_,e,_⟩:=h;cases e;rfl
theorem Ints.open {w:World} {v:Value} {xs:List Int} (h:Ints w v xs):∃ a cap,v=.slice a xs.length cap∧Ints w (.slice a xs.length cap) xs:=by
 have h':=h
 obtain⟨a,cap,e,_⟩:=h
 subst e
 exact⟨a,cap,rfl,h'⟩
theorem run_append_where {P:Program} (w:World) (base:Nat) (t ty e:TypeId) (i:TypeInfo) (z:Value) (size bytes:Nat) (ht:P.underlying t=some (.slice e)) (hi:P.info? e=some i) (hz:i.zero=some z)
  (hsize:i.size=size) (hby:i.bytes=bytes) (hzs:z.cells.size=size) (hsz:0<size)
  (v:Value) (n:Nat) (xs:List Value) (hown:w.ownsRow base e size v n xs)
  (a:Addr) (m c:Nat) (news:List Value) (hl:news.length=m*size) (hnews:∀ j u,news[j]?=some u→w.cell? (a.add j)=some u) (h1:∀ u∈news,u.oneCell'=true)
  (h63:n+m≤maxLen) (hbytes:(n+m)*bytes≤140737488355328) (hbase:base≤w.heap.size):
  ∃ v' w',(Builtin.append_ #[t,t] ty #[v,.slice (some a) m c]).run P w=.ok v' w'∧w'.ownsRow base e size v' (n+m) (xs ++ news)∧w.grownBy w' v.ownBlock ∧
   ∀ k,v'.ownBlock=some k→v.ownBlock=some k∨w.heap.size≤k:=by
 obtain⟨v',w',hr,h2,h3,h4⟩:=run_append_own (P:=P) w base t ty e i z size bytes ht hi hz hsize hby hzs hsz v n xs hown a m c news hl hnews h1 h63 hbytes hbase
 refine⟨v',w',hr,h2,h3,fun k hk=>?_⟩
 have hsmall:n+m≤9223372036854775807:=by simp only[maxLen] at h63;omega
 subst hsize
 subst hby
 rcases hown.2 with ⟨rfl,rfl⟩|⟨g,cap,cur,rfl,hbg,hg,hnc,hcm,hcs,htake⟩
 ·by_cases hm:m=0
  ·have:v'=.slice none 0 0:=h4.2 ⟨rfl,hm⟩
   subst this
   simp[Value.ownBlock] at hk
  ·have hq:=run_append_nil (P:=P) w t ty e i z ht hi hz a m c news hl hnews (by omega) (by omega) (by have hb:=hbytes;simp only[Nat.zero_add] at hb;omega)
   rw[hr] at hq
   injection hq with hv hw
   subst hv
   simp only[Value.ownBlock,Option.some.injEq] at hk
   exact Or.inr (by omega)
 ·by_cases hroom:n+m≤cap
  ·have hfit:n*i.size+news.length≤cur.size:=by rw[hl,hcs,←Nat.add_mul];exact Nat.mul_le_mul_right _ hroom
   have hq:=run_append_room (P:=P) w t ty e i ht hi g n cap cur hg a m c news hl hnews h1 hroom hfit
   rw[hr] at hq
   injection hq with hv hw
   subst hv
   exact Or.inl hk
  ·have holds:∀ j u,xs[j]?=some u→w.cell? ((⟨g,0,none⟩:Addr).add j)=some u:=hown.cells (g:=g) rfl
   have hq:=run_append_grow (P:=P) w t ty e i z ht hi hz ⟨g,0,none⟩ n cap xs hown.1 holds a m c news hl hnews (by omega) (by omega) (growslice_fits (by omega) hbytes)
   rw[hr] at hq
   injection hq with hv hw
   subst hv
   simp only[Value.ownBlock,Option.some.injEq] at hk
   exact Or.inr (by omega)
end
section
set_option linter.unusedVariables false
def it (s:List Nat):Nat→Nat→Nat
 | 0,i=>i
 | k+1,i=>it s k (at' s i)
theorem at'_eq {s:List Nat} {i:Nat} (h:i<s.length):at' s i=s[i]:=by simp[at',List.getD,h]
theorem IsPerm.lt {s:List Nat} (h:IsPerm s) {i:Nat} (hi:i<s.length):at' s i<s.length:=by
 rw[at'_eq hi]
 exact h.2 _ (List.getElem_mem hi)
theorem IsPerm.inj {s:List Nat} (h:IsPerm s) {i j:Nat} (hi:i<s.length) (hj:j<s.length) (e:at' s i=at' s j):i=j:=by
 rw[at'_eq hi,at'_eq hj] at e
 have hp:=List.pairwise_iff_getElem.1 h.1
 rcases Nat.lt_trichotomy i j with hl|hl|hl
 ·exact absurd e (hp i j hi hj hl)
 ·exact hl
 ·exact absurd e.symm (hp j i hj hi hl)
theorem it_succ (s:List Nat) (k i:Nat):it s (k+1) i=at' s (it s k i):=by
 induction k generalizing i with
 | zero=>rfl
 | succ k ih=>exact ih (at' s i)
theorem it_add (s:List Nat) (k j i:Nat):it s (k+j) i=it s k (it s j i):=by
 induction j generalizing i with
 | zero=>rfl
 | succ j ih=>exact ih (at' s i)
theorem IsPerm.it_lt {s:List Nat} (h:IsPerm s) {i:Nat} (hi:i<s.length) (k:Nat):it s k i<s.length:=by
 induction k with
 | zero=>exact hi
 | succ k ih=>rw[it_succ];exact h.lt ih
theorem IsPerm.it_inj {s:List Nat} (h:IsPerm s) {x y:Nat} (hx:x<s.length) (hy:y<s.length) (k:Nat) (e:it s k x=it s k y):x=y:=by
 induction k with
 | zero=>exact e
 | succ k ih=>rw[it_succ,it_succ] at e;exact ih (h.inj (h.it_lt hx k) (h.it_lt hy k) e)
theorem pigeon:∀ (n:Nat) (f:Nat→Nat),(∀ k,k≤n→f k<n)→∃ a b,a<b∧b≤n∧f a=f b
 | 0,f,h=>absurd (h 0 (Nat.le_refl _)) (by omega)
 | n+1,f,h=>by
  by_cases hv:∃ a,a≤n∧f a=f (n+1)
  ·obtain⟨a,ha,e⟩:=hv
   exact⟨a,n+1,by omega,Nat.le_refl _,e⟩
  ·have hv':∀ a,a≤n→f a≠f (n+1):=fun a ha e=>hv ⟨a,ha,e⟩
   obtain⟨a,b,hab,hb,e⟩:=pigeon n (fun k=>if f k=n then f (n+1) else f k) (fun k hk=>by
    have h1:=h k (by omega)
    have h2:=h (n+1) (Nat.le_refl _)
    have h3:=hv' k hk
    show (if f k=n then f (n+1) else f k)<n
    split <;> omega)
   refine⟨a,b,hab,by omega,?_⟩
   have ha':=hv' a (by omega)
   have hb':=hv' b hb
   split at e <;> split at e <;> omega
def Reach (s:List Nat) (i f x:Nat):Prop:=∃ j,j≤f∧it s j x=i
theorem IsPerm.cycle {s:List Nat} (h:IsPerm s) {i:Nat} (hi:i<s.length):∃ d,0<d∧d≤s.length∧it s d i=i:=by
 obtain⟨a,b,hab,hb,e⟩:=pigeon s.length (fun k=>it s k i) (fun k _=>h.it_lt hi k)
 refine⟨b-a,by omega,by omega,?_⟩
 have e':it s b i=it s a (it s (b-a) i):=by rw[←it_add];congr 1;omega
 exact (h.it_inj hi (h.it_lt hi _) a (e.trans e')).symm
theorem IsPerm.reach {s:List Nat} (h:IsPerm s) {i:Nat} (hi:i<s.length):Reach s i s.length (at' s i):=by
 obtain⟨d,hd,hn,e⟩:=h.cycle hi
 obtain⟨d',rfl⟩:∃ d',d=d'+1:=⟨d-1,by omega⟩
 exact⟨d',by omega,e⟩
theorem Reach.next {s:List Nat} {i f x:Nat} (h:Reach s i f x) (hx:x≠i):∃ f',f=f'+1∧Reach s i f' (at' s x):=by
 obtain⟨j,hj,e⟩:=h
 match j,e with
 | 0,e=>exact absurd e hx
 | j+1,e=>exact⟨f-1,by omega,j,by omega,e⟩
theorem orbitGo_next {s:List Nat} {i f x:Nat} (hx:x≠i):orbitGo s i (f+1) x=x :: orbitGo s i f (at' s x):=by simp[orbitGo,hx]
theorem orbitGo_end (s:List Nat) (i f:Nat):orbitGo s i f i=[]:=by cases f <;> simp[orbitGo]
theorem orbitGo_length (s:List Nat) (i f x:Nat):(orbitGo s i f x).length≤f:=by
 induction f generalizing x with
 | zero=>simp[orbitGo]
 | succ f ih=>unfold orbitGo;split <;> simp;exact ih _
theorem orbitL_length (s:List Nat) (i:Nat):(orbitL s i).length≤s.length+1:=by
 simp only[orbitL,List.length_cons]
 have:=orbitGo_length s i s.length (at' s i)
 omega
theorem orbitGo_lt {s:List Nat} (h:IsPerm s) (i f:Nat):∀ x,x<s.length→∀ y,y∈orbitGo s i f x→y<s.length:=by
 induction f with
 | zero=>intro x hx y hy;simp[orbitGo] at hy
 | succ f ih=>
  intro x hx y hy
  unfold orbitGo at hy
  split at hy
  ·simp at hy
  ·rcases List.mem_cons.1 hy with rfl|hy
   ·exact hx
   ·exact ih _ (h.lt hx) y hy
theorem orbitL_lt {s:List Nat} (h:IsPerm s) {i:Nat} (hi:i<s.length):∀ y,y∈orbitL s i→y<s.length:=by
 intro y hy
 rcases List.mem_cons.1 hy with rfl|hy
 ·exact hi
 ·exact orbitGo_lt h i _ _ (h.lt hi) y hy
theorem foldl_set_length (l:List Nat) (y:Int) (xs:List Int):(l.foldl (fun l x=>l.set x y) xs).length=xs.length:=by
 induction l generalizing xs with
 | nil=>rfl
 | cons x l ih=>rw[List.foldl_cons,ih,List.length_set]
theorem namesGo_zero (s:List Nat):namesGo s 0=(List.replicate s.length (-1),0):=rfl
theorem namesGo_succ (s:List Nat) (k:Nat):namesGo s (k+1)=nameStep s (namesGo s k) k:=by
 simp[namesGo,List.range_succ]
theorem namesGo_length (s:List Nat) (k:Nat):(namesGo s k).1.length=s.length:=by
 induction k with
 | zero=>simp[namesGo_zero]
 | succ k ih=>
  rw[namesGo_succ]
  unfold nameStep
  split
  ·exact ih
  ·rw[foldl_set_length];exact ih
theorem namesGo_count (s:List Nat) (k:Nat):(namesGo s k).2≤k:=by
 induction k with
 | zero=>simp[namesGo_zero]
 | succ k ih=>
  rw[namesGo_succ]
  unfold nameStep
  split
  ·omega
  ·simp;omega
theorem namesL_length (s:List Nat):(namesL s).length=s.length:=namesGo_length s _
theorem nameStep_old {s:List Nat} {st:List Int × Nat} {i:Nat} (h:0≤st.1.getD i (-1)):nameStep s st i=st:=by unfold nameStep;rw[if_pos h]
theorem nameStep_new {s:List Nat} {st:List Int × Nat} {i:Nat} (h:¬ 0≤st.1.getD i (-1)):nameStep s st i=((orbitL s i).foldl (fun l x=>l.set x (st.2:Int)) st.1,st.2+1):=by
 unfold nameStep;rw[if_neg h]
theorem foldl_take_succ {α β:Type} (f:β→α→β) (b:β) (l:List α) (j:Nat) (h:j<l.length):(l.take (j+1)).foldl f b=f ((l.take j).foldl f b) l[j]:=by
 rw[List.take_succ_eq_append_getElem h,List.foldl_append];rfl
end
section
set_option linter.unusedVariables false
theorem orbitGo_it {s:List Nat} {i f x y:Nat} (h:y∈orbitGo s i f x):∃ j,it s j x=y:=by
 induction f generalizing x with
 | zero=>simp[orbitGo] at h
 | succ f ih=>
  unfold orbitGo at h
  split at h
  ·simp at h
  ·rcases List.mem_cons.1 h with rfl|h
   ·exact⟨0,rfl⟩
   ·obtain⟨j,hj⟩:=ih h
    exact⟨j+1,hj⟩
theorem orbitGo_has {s:List Nat} {i:Nat}:∀ (f x:Nat),Reach s i f x→∀ j,(∃ j',j'≤j∧it s j' x=i)∨it s j x∈orbitGo s i f x:=by
 intro f
 induction f with
 | zero=>
  intro x hr j
  obtain⟨j',h,e⟩:=hr
  exact Or.inl ⟨j',by omega,e⟩
 | succ f ih=>
  intro x hr j
  by_cases hx:x=i
  ·exact Or.inl ⟨0,Nat.zero_le _,hx⟩
  ·obtain⟨f',hf,hr'⟩:=hr.next hx
   obtain rfl:f=f':=by omega
   rw[orbitGo_next hx]
   match j with
   | 0=>exact Or.inr (List.mem_cons_self)
   | j+1=>
    rcases ih _ hr' j with ⟨j',h1,h2⟩|h
    ·exact Or.inl ⟨j'+1,by omega,h2⟩
    ·exact Or.inr (List.mem_cons_of_mem _ h)
theorem IsPerm.mem_orbit {s:List Nat} (h:IsPerm s) {i:Nat} (hi:i<s.length) {x:Nat}:x∈orbitL s i↔∃ j,it s j i=x:=by
 constructor
 ·intro hx
  rcases List.mem_cons.1 hx with rfl|hx
  ·exact⟨0,rfl⟩
  ·obtain⟨j,hj⟩:=orbitGo_it hx
   exact⟨j+1,hj⟩
 ·rintro⟨j,rfl⟩
  induction j using Nat.strongRecOn with
  | ind j ih=>
   match j with
   | 0=>exact List.mem_cons_self
   | j+1=>
    rcases orbitGo_has _ _ (h.reach hi) j with ⟨j',h1,h2⟩|h'
    ·have e:it s (j+1) i=it s (j-j') i:=by
      rw[show j+1=(j-j')+(j'+1) by omega,it_add]
      congr 1
     rw[e]
     exact ih _ (by omega)
    ·exact List.mem_cons_of_mem _ h'
theorem IsPerm.orbit_next {s:List Nat} (h:IsPerm s) {i:Nat} (hi:i<s.length) {x:Nat} (hx:x<s.length):at' s x∈orbitL s i↔x∈orbitL s i:=by
 rw[h.mem_orbit hi,h.mem_orbit hi]
 constructor
 ·rintro⟨j,hj⟩
  match j with
  | 0=>
   obtain⟨d,hd,_,e⟩:=h.cycle hi
   obtain⟨d',rfl⟩:∃ d',d=d'+1:=⟨d-1,by omega⟩
   refine⟨d',h.inj (h.it_lt hi _) hx ?_⟩
   rw[←it_succ,e]
   exact hj
  | j+1=>
   rw[it_succ] at hj
   exact⟨j,h.inj (h.it_lt hi _) hx hj⟩
 ·rintro⟨j,hj⟩
  exact⟨j+1,by rw[it_succ,hj]⟩
theorem nth_set {xs:List Int} {i j:Nat} {y:Int} (h:i<xs.length):nth (xs.set i y) j=if i=j then y else nth xs j:=by
 unfold nth
 rw[List.getD_eq_getElem?_getD,List.getElem?_set]
 split
 ·rename_i e;subst e;simp
 ·rw[List.getD_eq_getElem?_getD]
theorem nth_foldl_set (l:List Nat) (y:Int) (xs:List Int) (hl:∀ x∈l,x<xs.length) (j:Nat):nth (l.foldl (fun l x=>l.set x y) xs) j=if j∈l then y else nth xs j:=by
 induction l generalizing xs with
 | nil=>simp
 | cons a l ih=>
  rw[List.foldl_cons,ih _ (fun x hx=>by rw[List.length_set];exact hl x (List.mem_cons_of_mem _ hx)),nth_set (hl a List.mem_cons_self)]
  by_cases h1:j∈l
  ·simp[h1]
  ·by_cases h2:a=j
   ·simp[h2]
   ·simp[h1,h2,Ne.symm h2]
structure NamesInv (s:List Nat) (k:Nat) (N:List Int) (C:Nat):Prop where
 length:N.length=s.length
 val:∀ x,x<s.length→nth N x=-1∨(0≤nth N x∧nth N x<C)
 same:∀ x,x<s.length→nth N (at' s x)=nth N x
 told:∀ x,x<s.length→x<k→0≤nth N x
theorem NamesInv.it {s:List Nat} {k:Nat} {N:List Int} {C:Nat} (h:NamesInv s k N C) (hs:IsPerm s) {i:Nat} (hi:i<s.length) (j:Nat):nth N (Go.Proofs.YtgphnkkdmlohlaaGreatDoor.it s j i)=nth N i:=by
 induction j with
 | zero=>rfl
 | succ j ih=>rw[it_succ,h.same _ (hs.it_lt hi j),ih]
theorem NamesInv.zero {s:List Nat} (hs:IsPerm s):NamesInv s 0 (List.replicate s.length (-1)) 0:=by
 have key:∀ x,x<s.length→nth (List.replicate s.length (-1)) x=-1:=fun x hx=>by simp[nth,hx]
 exact⟨by simp,fun x hx=>Or.inl (key x hx),fun x hx=>by rw[key x hx,key _ (hs.lt hx)],fun x hx h=>by omega⟩
theorem NamesInv.step {s:List Nat} (hs:IsPerm s) {k:Nat} (hk:k<s.length) {N:List Int} {C:Nat} (h:NamesInv s k N C):NamesInv s (k+1) (nameStep s (N,C) k).1 (nameStep s (N,C) k).2 ∧
  (∀ x,x<s.length→0≤nth N x→nth (nameStep s (N,C) k).1 x=nth N x) ∧
  ((0≤nth N k∧nth N k<C∧(nameStep s (N,C) k).2=C)∨(nth N k=-1∧nth (nameStep s (N,C) k).1 k=C∧(nameStep s (N,C) k).2=C+1)):=by
 have hg:N.getD k (-1)=nth N k:=by
  have:k<N.length:=by rw[h.length];exact hk
  simp[nth,this]
 by_cases hold:0≤nth N k
 ·rw[nameStep,if_pos (show 0≤(N,C).1.getD k (-1) from by rw[hg];exact hold)]
  refine⟨⟨h.length,h.val,h.same,fun x hx hxk=>?_⟩,fun _ _ _=>rfl,Or.inl ⟨hold,?_,rfl⟩⟩
  ·by_cases e:x=k
   ·subst e;exact hold
   ·exact h.told x hx (by omega)
  ·rcases h.val k hk with e|e
   ·omega
   ·exact e.2
 ·have hm1:nth N k=-1:=by
   rcases h.val k hk with e|e
   ·exact e
   ·omega
  have hst:nameStep s (N,C) k=((orbitL s k).foldl (fun l x=>l.set x (C:Int)) N,C+1):=by
   unfold nameStep
   rw[if_neg (show ¬ 0≤(N,C).1.getD k (-1) from by rw[hg];exact hold)]
  rw[hst]
  have hlt:∀ x∈orbitL s k,x<N.length:=by rw[h.length];exact orbitL_lt hs hk
  have hn:=nth_foldl_set (orbitL s k) (C:Int) N hlt
  have horb:∀ x,x∈orbitL s k→nth N x=-1:=fun x hx=>by
   obtain⟨j,rfl⟩:=(hs.mem_orbit hk).1 hx
   rw[h.it hs hk,hm1]
  have hkk:k∈orbitL s k:=List.mem_cons_self
  refine⟨⟨by rw[foldl_set_length];exact h.length,fun x hx=>?_,fun x hx=>?_,fun x hx hxk=>?_⟩,fun x hx h0=>?_,Or.inr ⟨hm1,?_,rfl⟩⟩
  ·show nth ((orbitL s k).foldl (fun l x=>l.set x (C:Int)) N) x=-1∨_
   rw[hn]
   split
   ·right;simp;omega
   ·rcases h.val x hx with e|e
    ·exact Or.inl e
    ·right;simp;omega
  ·show nth ((orbitL s k).foldl (fun l x=>l.set x (C:Int)) N) (at' s x)=nth ((orbitL s k).foldl (fun l x=>l.set x (C:Int)) N) x
   rw[hn,hn,h.same x hx]
   by_cases e:x∈orbitL s k
   ·rw[if_pos e,if_pos ((hs.orbit_next hk hx).2 e)]
   ·rw[if_neg e,if_neg (fun e'=>e ((hs.orbit_next hk hx).1 e'))]
  ·show 0≤nth ((orbitL s k).foldl (fun l x=>l.set x (C:Int)) N) x
   rw[hn]
   split
   ·omega
   ·rename_i hne
    refine h.told x hx ?_
    have:x≠k:=fun e=>hne (e ▸ hkk)
    omega
  ·show nth ((orbitL s k).foldl (fun l x=>l.set x (C:Int)) N) x=nth N x
   rw[hn,if_neg (fun e=>by have:=horb x e;omega)]
  ·show nth ((orbitL s k).foldl (fun l x=>l.set x (C:Int)) N) k=C
   rw[hn,if_pos hkk]
theorem namesGo_inv {s:List Nat} (hs:IsPerm s) (k:Nat) (hk:k≤s.length):NamesInv s k (namesGo s k).1 (namesGo s k).2:=by
 induction k with
 | zero=>exact NamesInv.zero hs
 | succ k ih=>
  rw[namesGo_succ]
  exact (NamesInv.step hs (by omega) (ih (by omega))).1
theorem namesGo_keeps {s:List Nat} (hs:IsPerm s) {k:Nat} (hk:k<s.length) {x:Nat} (hx:x<s.length) (h0:0≤nth (namesGo s k).1 x):nth (namesGo s (k+1)).1 x=nth (namesGo s k).1 x:=by
 rw[namesGo_succ]
 exact (NamesInv.step hs hk (namesGo_inv hs k (by omega))).2.1 x hx h0
theorem namesGo_final {s:List Nat} (hs:IsPerm s) {k:Nat} (hk:k≤s.length) {x:Nat} (hx:x<s.length) (h0:0≤nth (namesGo s k).1 x):nth (namesL s) x=nth (namesGo s k).1 x:=by
 have key:∀ d,k+d≤s.length→nth (namesGo s (k+d)).1 x=nth (namesGo s k).1 x:=by
  intro d
  induction d with
  | zero=>intro _;rfl
  | succ d ih=>
   intro hd
   have e:=ih (by omega)
   rw[show k+(d+1)=(k+d)+1 by omega,namesGo_keeps hs (by omega) hx (by rw[e];exact h0),e]
 have:=key (s.length-k) (by omega)
 rw[show k+(s.length-k)=s.length by omega] at this
 exact this
theorem names_next {s:List Nat} (hs:IsPerm s) {k:Nat} (hk:k<s.length):
  (0≤nth (namesL s) k∧nth (namesL s) k<(namesGo s k).2∧(namesGo s (k+1)).2=(namesGo s k).2)∨(nth (namesL s) k=(namesGo s k).2∧(namesGo s (k+1)).2=(namesGo s k).2+1):=by
 have hI:=namesGo_inv hs k (by omega)
 obtain⟨h1,h2,h3⟩:=NamesInv.step hs hk hI
 rw[show nameStep s ((namesGo s k).1,(namesGo s k).2) k=namesGo s (k+1) from (namesGo_succ s k).symm] at h1 h2 h3
 rcases h3 with ⟨a,b,c⟩|⟨a,b,c⟩
 ·left
  rw[namesGo_final hs (k:=k) (by omega) hk a]
  exact⟨a,b,c⟩
 ·right
  rw[namesGo_final hs (k:=k+1) (by omega) hk (by rw[b];omega),b]
  exact⟨rfl,c⟩
def sizesGo (s:List Nat) (k:Nat):List Int:=((namesL s).take k).foldl sizeStep []
theorem sizesGo_zero (s:List Nat):sizesGo s 0=[]:=by simp[sizesGo]
theorem sizesGo_succ {s:List Nat} {k:Nat} (hk:k<s.length):sizesGo s (k+1)=sizeStep (sizesGo s k) (nth (namesL s) k):=by
 have h:k<(namesL s).length:=by rw[namesL_length];exact hk
 unfold sizesGo
 rw[foldl_take_succ _ _ _ _ h]
 simp[nth,h]
theorem sizesGo_all (s:List Nat):sizesGo s s.length=sizesL s:=by
 unfold sizesGo sizesL
 rw[List.take_of_length_le (by rw[namesL_length];exact Nat.le_refl _)]
theorem sizesGo_length {s:List Nat} (hs:IsPerm s) (k:Nat) (hk:k≤s.length):(sizesGo s k).length=(namesGo s k).2:=by
 induction k with
 | zero=>simp[sizesGo_zero,namesGo_zero]
 | succ k ih=>
  have ih:=ih (by omega)
  rw[sizesGo_succ (by omega)]
  unfold sizeStep
  rcases names_next hs (k:=k) (by omega) with ⟨a,b,c⟩|⟨a,c⟩
  ·rw[if_neg (by omega)];simp only[List.length_set];omega
  ·rw[if_pos (by omega)];simp only[List.length_set,List.length_append,List.length_cons,List.length_nil];omega
theorem sizesGo_bound {s:List Nat} (k:Nat) (hk:k≤s.length) (j:Nat):0≤nth (sizesGo s k) j∧nth (sizesGo s k) j≤k:=by
 induction k generalizing j with
 | zero=>simp[sizesGo_zero,nth]
 | succ k ih=>
  have ih:=ih (by omega)
  rw[sizesGo_succ (by omega)]
  unfold sizeStep
  have key:∀ (m:List Int),(∀ j,0≤nth m j∧nth m j≤k)→∀ i,0≤nth (m.set i (m.getD i 0+1)) j∧nth (m.set i (m.getD i 0+1)) j≤(k+1:Nat):=by
   intro m hm i
   have hj:=hm j
   have hi:=hm i
   by_cases h:i<m.length
   ·rw[nth_set h]
    split
    ·unfold nth at hi;omega
    ·omega
   ·rw[List.set_eq_of_length_le (by omega)];omega
  refine key _ (fun j=>?_) _
  split
  ·have hj:=ih j
   unfold nth at hj ⊢
   rw[List.getD_eq_getElem?_getD,List.getElem?_append]
   split
   ·rw[List.getD_eq_getElem?_getD] at hj;exact hj
   ·rename_i h1
    rcases Nat.lt_or_ge (j-(sizesGo s k).length) 1 with h2|h2
    ·rw[show j-(sizesGo s k).length=0 by omega];simp
    ·rw[List.getElem?_eq_none (by simpa using h2)];simp
  ·exact ih j
theorem xor_one (i:Nat):i ^^^ 1=if i % 2=0 then i+1 else i-1:=by
 have h1:(i ^^^ 1) % 2=(i+1) % 2:=by
  have:(i ^^^ 1) % 2 ^ 1=(i % 2 ^ 1) ^^^ (1 % 2 ^ 1):=Nat.xor_mod_two_pow
  simp only[Nat.pow_one] at this
  rw[this]
  rcases Nat.mod_two_eq_zero_or_one i with h|h
  ·rw[h,show (0 ^^^ 1 % 2:Nat)=1 from rfl];omega
  ·rw[h,show (1 ^^^ 1 % 2:Nat)=0 from rfl];omega
 have h2:(i ^^^ 1) / 2=i / 2:=by
  have:(i ^^^ 1) / 2 ^ 1=(i / 2 ^ 1) ^^^ (1 / 2 ^ 1):=Nat.xor_div_two_pow
  simpa using this
 split <;> omega
theorem xor_one_one (i:Nat):(i ^^^ 1) ^^^ 1=i:=by rw[Nat.xor_assoc];simp
theorem xor_one_lt {n i:Nat} (hn:n % 2=0) (hi:i<n):i ^^^ 1<n:=by rw[xor_one];split <;> omega
theorem phiL_length (s:List Nat):(phiL s).length=s.length:=by simp[phiL]
theorem phiL_at {s:List Nat} {d:Nat} (h:d<s.length):at' (phiL s) d=at' s (d ^^^ 1):=by
 rw[at'_eq (by rw[phiL_length];exact h)];simp[phiL]
theorem phiL_perm {s:List Nat} (hs:IsPerm s) (he:s.length % 2=0):IsPerm (phiL s):=by
 refine⟨List.pairwise_iff_getElem.2 fun i j hi hj hij e=>?_,fun x hx=>?_⟩
 ·rw[phiL_length] at hi hj
  rw[←at'_eq (by rw[phiL_length];exact hi),←at'_eq (by rw[phiL_length];exact hj),phiL_at hi,phiL_at hj] at e
  have:=hs.inj (xor_one_lt he hi) (xor_one_lt he hj) e
  have h2:=congrArg (· ^^^ 1) this
  simp only[xor_one_one] at h2
  omega
 ·obtain⟨i,hi,rfl⟩:=List.mem_iff_getElem.1 hx
  rw[phiL_length] at hi ⊢
  rw[←at'_eq (by rw[phiL_length];exact hi),phiL_at hi]
  exact hs.lt (xor_one_lt he hi)
def phiGo (s:List Nat) (k:Nat):List Nat:=(List.range s.length).map fun d=>if d<k then at' s (d ^^^ 1) else 0
theorem phiGo_zero (s:List Nat):phiGo s 0=List.replicate s.length 0:=by
 refine List.ext_getElem (by simp[phiGo]) fun i h1 h2=>?_
 simp[phiGo]
theorem phiGo_length (s:List Nat) (k:Nat):(phiGo s k).length=s.length:=by simp[phiGo]
theorem phiGo_succ {s:List Nat} {k:Nat} (hk:k<s.length):phiGo s (k+1)=(phiGo s k).set k (at' s (k ^^^ 1)):=by
 refine List.ext_getElem (by simp[phiGo]) fun i h1 h2=>?_
 simp only[phiGo,List.getElem_map,List.getElem_range,List.getElem_set]
 by_cases h:k=i
 ·subst h;simp
 ·rw[if_neg h]
  by_cases h':i<k
  ·rw[if_pos h',if_pos (by omega)]
  ·rw[if_neg h',if_neg (by omega)]
theorem phiGo_all (s:List Nat):phiGo s s.length=phiL s:=by
 refine List.ext_getElem (by simp[phiGo,phiL]) fun i h1 h2=>?_
 rw[phiGo_length] at h1
 simp only[phiGo,phiL,List.getElem_map,List.getElem_range]
 rw[if_pos h1]
end
section
set_option linter.unusedVariables false
theorem IsPerm.of_inj {l:List Nat} (h1:∀ i,i<l.length→at' l i<l.length) (h2:∀ i j,i<l.length→j<l.length→at' l i=at' l j→i=j):IsPerm l:=by
 refine⟨List.pairwise_iff_getElem.2 fun i j hi hj hij e=>?_,fun x hx=>?_⟩
 ·rw[←at'_eq hi,←at'_eq hj] at e
  have:=h2 i j hi hj e
  omega
 ·obtain⟨i,hi,rfl⟩:=List.mem_iff_getElem.1 hx
  rw[←at'_eq hi]
  exact h1 i hi
theorem at'_set {l:List Nat} {i j x:Nat} (h:i<l.length):at' (l.set i x) j=if i=j then x else at' l j:=by
 unfold at'
 rw[List.getD_eq_getElem?_getD,List.getElem?_set]
 split
 ·rename_i e;subst e;simp
 ·rw[List.getD_eq_getElem?_getD]
end
section
set_option linter.unusedVariables false
def cnt (s:List Nat) (j:Nat):Nat→Int
 | 0=>0
 | k+1=>cnt s j k+(if nth (namesL s) k=j then 1 else 0)
theorem names_lt {s:List Nat} (hs:IsPerm s) {k:Nat} (hk:k<s.length):0≤nth (namesL s) k∧nth (namesL s) k<(sizesL s).length:=by
 have h1:(sizesL s).length=(namesGo s s.length).2:=by rw[←sizesGo_all,sizesGo_length hs _ (Nat.le_refl _)]
 have hI:=namesGo_inv hs s.length (Nat.le_refl _)
 have h0:=hI.told k hk hk
 rcases hI.val k hk with e|e
 ·have:nth (namesL s) k=-1:=e
  have h2:0≤nth (namesL s) k:=h0
  omega
 ·exact⟨h0,by rw[h1];exact e.2⟩
end
section
set_option linter.unusedVariables false
def updN (f:Nat→Nat) (x y:Nat):Nat→Nat:=fun j=>if j=x then y else f j
theorem updN_same (f:Nat→Nat) (x y:Nat):updN f x y x=y:=by simp[updN]
theorem updN_other (f:Nat→Nat) (x y:Nat) {j:Nat} (h:j≠x):updN f x y j=f j:=by simp[updN,h]
def stk (op:Nat→Bool):Nat→List Nat × (Nat→Nat)
 | 0=>([],fun _=>0)
 | i+1=>
  if op i=true then (i :: (stk op i).1,(stk op i).2)
  else ((stk op i).1.tail,updN (updN (stk op i).2 i ((stk op i).1.headD 0)) ((stk op i).1.headD 0) i)
theorem stk_open {op:Nat→Bool} {i:Nat} (h:op i=true):stk op (i+1)=(i :: (stk op i).1,(stk op i).2):=by
 show (if op i=true then _ else _)=_
 rw[if_pos h]
theorem stk_close {op:Nat→Bool} {i o:Nat} {r:List Nat} (h:op i=false) (hs:(stk op i).1=o :: r):stk op (i+1)=(r,updN (updN (stk op i).2 i o) o i):=by
 show (if op i=true then _ else _)=_
 rw[if_neg (by simp[h]),hs]
 rfl
structure Pairing (q:Nat) (op:Nat→Bool) (u:Nat→Nat):Prop where
 lt:∀ i,i<q→u i<q
 inv:∀ i,i<q→u (u i)=i
 ne:∀ i,i<q→u i≠i
 op_iff:∀ i,i<q→(op i=true↔i<u i)
def NoCross (q:Nat) (u:Nat→Nat):Prop:=∀ x y,x<q→y<q→x<y→y<u x→x<u y∧u y<u x
def opens (u:Nat→Nat) (i:Nat):Nat→List Nat
 | 0=>[]
 | j+1=>if i≤u j then j :: opens u i j else opens u i j
theorem mem_opens {u:Nat→Nat} {i x:Nat}:∀ {j:Nat},x∈opens u i j↔x<j∧i≤u x
 | 0=>by simp[opens]
 | j+1=>by
  unfold opens
  split
  ·rename_i h
   rw[List.mem_cons,mem_opens]
   constructor
   ·rintro (rfl|h')
    ·exact⟨by omega,h⟩
    ·exact⟨by omega,h'.2⟩
   ·rintro⟨h1,h2⟩
    by_cases e:x=j
    ·exact Or.inl e
    ·exact Or.inr ⟨by omega,h2⟩
  ·rename_i h
   rw[mem_opens]
   constructor
   ·rintro⟨h1,h2⟩;exact⟨by omega,h2⟩
   ·rintro⟨h1,h2⟩
    refine⟨?_,h2⟩
    rcases Nat.lt_or_ge x j with h3|h3
    ·exact h3
    ·obtain rfl:x=j:=by omega
     exact absurd h2 h
theorem opens_head {u:Nat→Nat} {i o:Nat} {r:List Nat}:∀ {j:Nat},opens u i j=o :: r→(∀ x,x<j→i≤u x→x≤o)∧r=opens u i o
 | 0,h=>by simp[opens] at h
 | j+1,h=>by
  unfold opens at h
  split at h
  ·injection h with h1 h2
   subst h1
   exact⟨fun x hx _=>by omega,h2.symm⟩
  ·rename_i hn
   obtain⟨h1,h2⟩:=opens_head h
   refine⟨fun x hx hu=>?_,h2⟩
   rcases Nat.lt_or_ge x j with h3|h3
   ·exact h1 x h3 hu
   ·obtain rfl:x=j:=by omega
    exact absurd hu hn
theorem opens_congr {u:Nat→Nat} {i k:Nat}:∀ {j:Nat},(∀ x,x<j→(i≤u x↔k≤u x))→opens u i j=opens u k j
 | 0,_=>rfl
 | j+1,h=>by
  unfold opens
  rw[opens_congr fun x hx=>h x (by omega)]
  by_cases hi:i≤u j
  ·rw[if_pos hi,if_pos ((h j (by omega)).1 hi)]
  ·rw[if_neg hi,if_neg (fun e=>hi ((h j (by omega)).2 e))]
section
variable {q : Nat} {op : Nat → Bool} {u : Nat → Nat} (hp : Pairing q op u)
include hp
theorem open_some {i:Nat} (hi:i<q) (hc:op i=false):u i<i∧u i∈opens u i i:=by
 have h1:=hp.ne i hi
 have h2:¬ i<u i:=fun h=>by rw[(hp.op_iff i hi).2 h] at hc;cases hc
 refine⟨by omega,mem_opens.2 ⟨by omega,?_⟩⟩
 rw[hp.inv i hi]
 exact Nat.le_refl _
theorem opens_push {i:Nat} (hi:i<q) (ho:op i=true):opens u (i+1) (i+1)=i :: opens u i i:=by
 have h:=(hp.op_iff i hi).1 ho
 show (if i+1≤u i then _ else _)=_
 rw[if_pos (by omega)]
 congr 1
 refine opens_congr fun x hx=>?_
 have:u x≠i:=fun e=>by
  have:=hp.inv x (by omega)
  rw[e] at this
  omega
 omega
theorem opens_pop {i:Nat} (hi:i<q) (hc:op i=false) (hm:opens u i i=u i :: opens u i (u i)):opens u (i+1) (i+1)=opens u i (u i):=by
 obtain⟨h1,_⟩:=open_some hp hi hc
 have hx:∀ x,u i<x→x<i→¬ i≤u x:=fun x h2 h3 h4=>by
  have:=(opens_head hm).1 x h3 h4
  omega
 have key:∀ d,u i+1+d≤i+1→opens u (i+1) (u i+1+d)=opens u (i+1) (u i):=fun d=>by
  induction d with
  | zero=>
   intro _
   show (if i+1≤u (u i) then _ else _)=_
   rw[hp.inv i hi,if_neg (by omega)]
  | succ d ih=>
   intro hd
   rw[←ih (by omega)]
   have hneg:¬ i+1≤u (u i+1+d):=by
    rcases Nat.lt_or_ge (u i+1+d) i with h|h
    ·have:=hx (u i+1+d) (by omega) h
     omega
    ·have e:u i+1+d=i:=by omega
     rw[e];omega
   show (if i+1≤u (u i+1+d) then _ else opens u (i+1) (u i+1+d))=_
   exact if_neg hneg
 have:=key (i-u i) (by omega)
 rw[show u i+1+(i-u i)=i+1 by omega] at this
 rw[this]
 refine opens_congr fun x hx=>?_
 have:u x≠i:=fun e=>by
  have:=hp.inv x (by omega)
  rw[e] at this
  omega
 omega
theorem stk_of_noCross (hn:NoCross q u):∀ i,i≤q→(stk op i).1=opens u i i∧∀ j,j<i→u j<i→(stk op i).2 j=u j
 | 0,_=>⟨rfl,fun j hj=>by omega⟩
 | i+1,hi=>by
  obtain⟨h1,h2⟩:=stk_of_noCross hn i (by omega)
  cases ho:op i with
  | true=>
   rw[stk_open ho]
   refine⟨by rw[opens_push hp (by omega) ho,←h1],fun j hj hu=>?_⟩
   have hio:=(hp.op_iff i (by omega)).1 ho
   have hji:j≠i:=fun e=>by subst e;omega
   have hui:u j≠i:=fun e=>by
    have:=hp.inv j (by omega)
    rw[e] at this
    omega
   exact h2 j (by omega) (by omega)
  | false=>
   obtain⟨h3,h4⟩:=open_some hp (by omega) ho
   obtain⟨o,r,hor⟩:∃ o r,opens u i i=o :: r:=by
    cases h:opens u i i with
    | nil=>rw[h] at h4;cases h4
    | cons o r=>exact⟨o,r,rfl⟩
   have hmax:=(opens_head hor).1
   have hmo:o<i∧i≤u o:=mem_opens.1 (by rw[hor];exact List.mem_cons_self)
   have e:o=u i:=by
    have hle:=hmax (u i) h3 (by rw[hp.inv i (by omega)];exact Nat.le_refl _)
    rcases Nat.lt_or_ge (u i) o with h5|h5
    ·have h6:=hn (u i) o (by omega) (by omega) h5 (by rw[hp.inv i (by omega)];omega)
     rw[hp.inv i (by omega)] at h6
     omega
    ·omega
   have hr:=(opens_head hor).2
   subst e
   rw[stk_close ho (by rw[h1,hor])]
   refine⟨?_,fun j hj hu=>?_⟩
   ·rw[opens_pop hp (by omega) ho (by rw[hor,hr]),←hr]
   ·show updN (updN (stk op i).2 i (u i)) (u i) i j=u j
    by_cases hj1:j=u i
    ·subst hj1
     rw[updN_same,hp.inv i (by omega)]
    ·rw[updN_other _ _ _ hj1]
     by_cases hj2:j=i
     ·subst hj2;rw[updN_same]
     ·rw[updN_other _ _ _ hj2]
      refine h2 j (by omega) ?_
      have:u j≠i:=fun e=>hj1 (by have:=hp.inv j (by omega);rw[e] at this;exact this.symm)
      omega
end
theorem stk_desc {op:Nat→Bool}:∀ i,(stk op i).1.Pairwise (· > ·)∧∀ x∈(stk op i).1,x<i
 | 0=>⟨List.Pairwise.nil,fun x h=>by cases h⟩
 | i+1=>by
  obtain⟨h1,h2⟩:=stk_desc (op:=op) i
  cases ho:op i with
  | true=>
   rw[stk_open ho]
   refine⟨List.Pairwise.cons h2 h1,fun x hx=>?_⟩
   rcases List.mem_cons.1 hx with rfl|h
   ·exact Nat.lt_succ_self _
   ·exact Nat.lt_succ_of_lt (h2 x h)
  | false=>
   cases hs:(stk op i).1 with
   | nil=>
    have e:(stk op (i+1)).1=[]:=by
     show (if op i=true then _ else _:List Nat × (Nat→Nat)).1=_
     rw[if_neg (by simp[ho]),hs]
     rfl
    rw[e]
    exact⟨List.Pairwise.nil,fun x h=>by cases h⟩
   | cons o r=>
    rw[stk_close ho hs]
    rw[hs] at h1 h2
    exact⟨(List.pairwise_cons.1 h1).2,fun x hx=>Nat.lt_succ_of_lt (h2 x (List.mem_cons_of_mem _ hx))⟩
section
variable {q : Nat} {op : Nat → Bool} {u : Nat → Nat} (hp : Pairing q op u)
include hp
theorem stk_len:∀ i,i≤q→(stk op i).1.length=(opens u i i).length
 | 0,_=>rfl
 | i+1,hi=>by
  have ih:=stk_len i (by omega)
  cases ho:op i with
  | true=>
   rw[stk_open ho,opens_push hp (by omega) ho]
   simp[ih]
  | false=>
   obtain⟨h3,h4⟩:=open_some hp (by omega) ho
   have hcount:(opens u (i+1) (i+1)).length+1=(opens u i i).length:=by
    have hrec:∀ j,j≤i→(opens u (i+1) j).length+(if u i<j then 1 else 0)=(opens u i j).length:=fun j=>by
     induction j with
     | zero=>intro _;simp[opens]
     | succ j ihj=>
      intro hj
      have ihj:=ihj (by omega)
      unfold opens
      by_cases e:j=u i
      ·have e1:u j=i:=by rw[e,hp.inv i (by omega)]
       rw[e1,if_neg (by omega),if_pos (Nat.le_refl _),if_pos (by omega),List.length_cons,←ihj,if_neg (by omega)]
      ·have e1:u j≠i:=fun h=>e (by rw[←h,hp.inv j (by omega)])
       have e2:(u i<j+1)↔u i<j:=by omega
       by_cases h:i≤u j
       ·rw[if_pos (show i+1≤u j by omega),if_pos h,List.length_cons,List.length_cons,←ihj]
        by_cases h':u i<j
        ·rw[if_pos h',if_pos (by omega)]
        ·rw[if_neg h',if_neg (by omega)]
       ·rw[if_neg (show ¬ i+1≤u j by omega),if_neg h,←ihj]
        by_cases h':u i<j
        ·rw[if_pos h',if_pos (by omega)]
        ·rw[if_neg h',if_neg (by omega)]
    have h:=hrec i (Nat.le_refl _)
    rw[if_pos h3] at h
    rw[←h]
    congr 2
    show (if i+1≤u i then _ else opens u (i+1) i)=_
    exact if_neg (by omega)
   cases hs:(stk op i).1 with
   | nil=>
    rw[hs] at ih
    rw[←ih] at hcount
    simp at hcount
   | cons o r=>
    rw[stk_close ho hs]
    rw[hs,List.length_cons] at ih
    show r.length=_
    omega
theorem stk_ne (k:Nat) (hk:k<q) (hc:op k=false):(stk op k).1≠[]:=fun e=>by
 have h:=stk_len hp k (by omega)
 obtain⟨_,h4⟩:=open_some hp hk hc
 rw[e] at h
 rw[List.eq_nil_of_length_eq_zero h.symm] at h4
 cases h4
theorem stk_bd:∀ j,j<q→(stk op q).2 j<q:=by
 have H:∀ i,i≤q→∀ j,(stk op i).2 j<q∨q=0:=fun i=>by
  induction i with
  | zero=>intro _ j;show 0<q∨q=0;omega
  | succ i ih=>
   intro hi j
   have ih:=ih (by omega)
   cases ho:op i with
   | true=>rw[stk_open ho];exact ih j
   | false=>
    cases hs:(stk op i).1 with
    | nil=>exact absurd hs (stk_ne hp i (by omega) ho)
    | cons o r=>
     have d2:=(stk_desc (op:=op) i).2 o (by rw[hs];exact List.mem_cons_self)
     rw[stk_close ho hs]
     show updN (updN (stk op i).2 i o) o i j<q∨_
     unfold updN
     split
     ·omega
     ·split
      ·omega
      ·exact ih j
 intro j hj
 rcases H q (Nat.le_refl _) j with h|h
 ·exact h
 ·omega
end
end
section
set_option linter.unusedVariables false
structure PMatch (P:Nat) (S:Nat→Bool) (m:Nat→Nat):Prop where
 lt:∀ j,j<P→m j<P
 inv:∀ j,j<P→m (m j)=j
 ne:∀ j,j<P→m j≠j
 same:∀ j,j<P→S (m j)=S j
def srt (S:Nat→Bool) (P:Nat):List Nat:=(List.range P).filter S
theorem getD_lt {l:List Nat} {i:Nat} (h:i<l.length):l.getD i 0=l[i]:=by simp[List.getD,h]
theorem mem_srt {S:Nat→Bool} {P j:Nat}:j∈srt S P↔j<P∧S j=true:=by
 unfold srt
 rw[List.mem_filter,List.mem_range]
theorem srt_asc (S:Nat→Bool) (P:Nat):(srt S P).Pairwise (· < ·):=List.Pairwise.filter _ List.pairwise_lt_range
theorem srt_lt {S:Nat→Bool} {P i j:Nat} (hj:j<(srt S P).length) (h:i<j):(srt S P).getD i 0<(srt S P).getD j 0:=by
 have:=List.pairwise_iff_getElem.1 (srt_asc S P) i j (by omega) hj h
 rw[getD_lt hj,getD_lt (by omega)]
 exact this
theorem srt_lt_iff {S:Nat→Bool} {P i j:Nat} (hi:i<(srt S P).length) (hj:j<(srt S P).length):(srt S P).getD i 0<(srt S P).getD j 0↔i<j:=by
 constructor
 ·intro h
  rcases Nat.lt_trichotomy i j with h1|h1|h1
  ·exact h1
  ·subst h1;omega
  ·have:=srt_lt hi h1;omega
 ·exact srt_lt hj
theorem srt_inj {S:Nat→Bool} {P i j:Nat} (hi:i<(srt S P).length) (hj:j<(srt S P).length) (h:(srt S P).getD i 0=(srt S P).getD j 0):i=j:=by
 rcases Nat.lt_trichotomy i j with h1|h1|h1
 ·have:=srt_lt hj h1;omega
 ·exact h1
 ·have:=srt_lt hi h1;omega
theorem srt_get {S:Nat→Bool} {P i:Nat} (hi:i<(srt S P).length):(srt S P).getD i 0<P∧S ((srt S P).getD i 0)=true:=by
 rw[getD_lt hi]
 exact mem_srt.1 (List.getElem_mem hi)
theorem srt_idx {S:Nat→Bool} {P j:Nat} (hj:j<P) (hs:S j=true):(srt S P).idxOf j<(srt S P).length∧(srt S P).getD ((srt S P).idxOf j) 0=j:=by
 have h:=List.idxOf_lt_length_of_mem (mem_srt.2 ⟨hj,hs⟩)
 refine⟨h,?_⟩
 rw[getD_lt h]
 exact List.getElem_idxOf h
section
variable {P : Nat} {S : Nat → Bool} {m : Nat → Nat} (hm : PMatch P S m)
include hm
end
end
end Go.Proofs.YtgphnkkdmlohlaaGreatDoor
