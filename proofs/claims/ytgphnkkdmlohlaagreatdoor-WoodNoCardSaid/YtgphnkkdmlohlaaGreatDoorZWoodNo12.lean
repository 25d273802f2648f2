/- the references: Mix, Any. Conditions: the bytes lie in memory. The arguments of a law as its walk takes them: bytes as numbers. Conditions: none. -/
import Derived.Test.YtgphnkkdmlohlaaGreatDoorZWoodNo11
import Derived.Test.YtgphnkkdmlohlaaGreatDoorZWoodNo01
import Derived.BigRegion
namespace Go.Proofs.YtgphnkkdmlohlaaGreatDoor
section
open Go.RowKit
set_option linter.unusedVariables false
def FreeB (R:Reg) (w:World) (v:Value) (bs:List Nat):Prop:=
 ∃ a cap,v=.slice a bs.length cap∧bs.length≤maxLen∧∀ i,i<bs.length→∃ b off,a=some ⟨b,off,none⟩∧R b=none∧w.cell? ⟨b,off+i,none⟩=some (.int .u8 ((at' bs i:Nat):Int))∧at' bs i≤255
theorem FreeB.ev {R R1:Reg} {w w1:World} {v:Value} {bs:List Nat} (h:FreeB R w v bs) (he:Ev R w R1 w1):FreeB R1 w1 v bs:=by
 obtain⟨a,cap,h1,h2,h3⟩:=h
 refine⟨a,cap,h1,h2,fun i hi=>?_⟩
 obtain⟨b,off,e,hb,hc,hl⟩:=h3 i hi
 have hlt:=lt_of_cell hc
 exact⟨b,off,e,he.free b hlt hb,(he.cell hlt hb).trans hc,hl⟩
theorem set3 {w1:World} {b T:Nat} {c0 c1 c2 x y z:Value} (h:w1.heap[b]?=some (.cells #[c0,c1,c2] T (0,0))):
  (((w1.setCell ⟨b,0,none⟩ x).setCell ⟨b,1,none⟩ y).setCell ⟨b,2,none⟩ z).heap[b]?=some (.cells #[x,y,z] T (0,0)):=by
 have e1:=heap_setCell_same w1 b 0 _ T x h
 have e2:=heap_setCell_same _ b 1 _ T y e1
 exact heap_setCell_same _ b 2 _ T z e2
def RetMap (R:Reg) (w:World) (s:List Nat) (root lone:Int) (e:Ending) (w':World):Prop:=
 ∃ a c,e=.returned (refV (.slice a s.length c) root lone)∧Ev R w R w'∧OwnI R w.heap.size 3 w' (.slice a s.length c) (toI s)
end
section
open Go.RowKit
set_option linter.unusedVariables false
def IsRow (k:IntKind) (w:World) (a:Option Addr) (len cap:Nat) (zs:List Int):Prop:=
 (a=none∧len=0∧cap=0∧zs=[]) ∨
 ∃ x,a=some x∧len≤cap∧cap≤maxLen∧zs.length=cap∧(∀ i,i<zs.length→w.cell? (x.add i)=some (.int k (zs.getD i 0)))∧∀ n∈zs,(Lit.int k n).wf=true
theorem nat_of_u8 {a:Int} (h:(Lit.int .u8 a).wf=true):∃ n:Nat,a=(n:Int)∧n≤255:=by
 have hx:0≤a∧a≤255:=by simpa [Lit.wf,IntKind.min,IntKind.max,IntKind.signed,IntKind.bits] using h
 exact⟨a.toNat,by omega,by omega⟩
theorem FreeB.of_row {w:World} {a:Option Addr} {len cap:Nat} {zs:List Int} (h:IsRow .u8 w a len cap zs):∃ bs,FreeB noReg w (.slice a len cap) bs:=by
 rcases h with ⟨rfl,rfl,rfl,rfl⟩|⟨x,rfl,hl,hm,hz,hc,hw⟩
 ·exact⟨[],none,0,rfl,by simp[maxLen],fun i hi=>by simp at hi⟩
 ·refine⟨(zs.take len).map Int.toNat,some x,cap,?_,?_,fun i hi=>?_⟩
  ·simp only[List.length_map,List.length_take]
   rw[Nat.min_eq_left (by omega)]
  ·simp only[List.length_map,List.length_take];omega
  ·simp only[List.length_map,List.length_take] at hi
   have hi':i<zs.length:=by omega
   have hcell:=hc i hi'
   obtain⟨b,off,sp⟩:=x
   have hg:zs.getD i 0=zs[i]:=by simp[List.getD,hi']
   have hwf:=hw zs[i] (List.getElem_mem hi')
   obtain⟨y,hy,hy2⟩:=nat_of_u8 hwf
   have hat:at' ((zs.take len).map Int.toNat) i=y:=by
    unfold at'
    rw[List.getD_eq_getElem?_getD,List.getElem?_map,List.getElem?_take,if_pos (by omega),List.getElem?_eq_getElem hi',hy]
    simp
   rw[hg,hy] at hcell
   have hsp:sp=none:=by
    have h0:=World.cell?_spot (hc 0 (by omega))
    simpa [Addr.add] using h0
   subst hsp
   refine⟨b,off,rfl,rfl,?_,by rw[hat];exact hy2⟩
   rw[hat]
   rw[Addr.add_lit] at hcell
   exact hcell
end
end Go.Proofs.YtgphnkkdmlohlaaGreatDoor
