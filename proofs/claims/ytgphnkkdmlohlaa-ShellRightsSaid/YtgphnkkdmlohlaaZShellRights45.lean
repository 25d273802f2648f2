/- A slice of arrays of bytes that came in, cell by cell. Conditions: none. Pairs of bytes as they come in. Conditions: none. -/
import Derived.Test.YtgphnkkdmlohlaaZShellRights11
import Derived.Deep.Slices
import Derived.OpenShut
namespace Go.Proofs.Ytgphnkkdmlohlaa
section
open Go.ChangeShapes Go.WideShapes Go.RowKit
set_option linter.unusedVariables false
def IsGrid (k:Nat) (w:World) (a:Option Addr) (len:Nat) (Z:Nat→Nat→Nat):Prop:=
 len≤maxLen∧∀ i,i<len→∃ b off,a=some ⟨b,off,none⟩∧∀ j,j<k→w.cell? ⟨b,off+k*i+j,none⟩=some (.int .u8 (Z i j:Int))∧Z i j≤255
theorem open_arrays {H:Type} {enc:TypeId × Value→H} {P:Program} {w:World} {base:Nat} {spare:Nat→Bool} {held:Bool} {t e u:TypeId} {k fuel len cap:Nat} {a:Option Addr} {x:DataW H × List MemPlace}
  (ht:P.underlying t=some (.slice e)) (he:P.underlying e=some (.array k u)) (hu:P.underlying u=some (.int .u8)) (ce:P.cellsOf e=k) (cu:P.cellsOf u=1) (hk:0<k)
  (h:DataW.trod enc P w base spare held fuel t [.slice a len cap]=some x):
  ∃ Z,IsGrid k w a len Z:=by
 unfold IsGrid
 rcases Go.Deep.open_slice ht h with ⟨hcs,_⟩|⟨x0,l,c,m,n,D,Pl,hcs,_,hl,hm,hmm,_,hx⟩
 ·simp at hcs
  obtain⟨rfl,rfl,rfl⟩:=hcs
  exact⟨fun _ _=>0,by simp[maxLen],fun i hi=>by omega⟩
 ·simp at hcs
  obtain⟨rfl,rfl,rfl⟩:=hcs
  have hlm:len≤m:=by rw[hmm];split <;> omega
  have each:∀ i,i<m→∀ j,j<k→∃ y:Nat,w.cell? (x0.add (i*k+j))=some (.int .u8 (y:Int))∧y≤255:=fun i hi j hj=>by
   obtain⟨cs',h1,h2⟩:=hx i hi
   rw[ce] at h1
   obtain⟨_,hlen,hcell⟩:=World.cells?_some h1
   obtain⟨xs,m',_,_,_,hxl,hf⟩:=DataW.trod_array he h2
   have h3:=hf j hj
   rw[cu,Nat.mul_one,List.getElem?_eq_getElem (by omega)] at h3
   obtain⟨v,h4,_,h5⟩:=DataW.trod_int hu h3
   obtain⟨y,rfl,hy⟩:=nat_of_u8 h5
   refine⟨y,?_,hy⟩
   have h6:=hcell j hj
   rw[Go.Deep.add_add] at h6
   rw[h6]
   have h7:(cs'.drop j)[0]?=some (.int .u8 (y:Int)):=by
    have:=congrArg (fun l=>l[0]?) h4
    simpa using this
   simpa using h7
  by_cases hm0:0<m
  case neg=>exact⟨fun _ _=>0,by omega,fun i hi=>by omega⟩
  obtain⟨b,off,sp⟩:=x0
  have hsp:sp=none:=by
   obtain⟨y,hy,_⟩:=each 0 hm0 0 hk
   have h0:=World.cell?_spot hy
   simpa [Addr.add] using h0
  subst hsp
  have each2:∀ i,i<m→∀ j,j<k→∃ y:Nat,w.cell? ⟨b,off+k*i+j,none⟩=some (.int .u8 (y:Int))∧y≤255:=fun i hi j hj=>by
   obtain⟨y,h1,h2⟩:=each i hi j hj
   rw[Addr.add_lit,Nat.mul_comm i k,←Nat.add_assoc] at h1
   exact⟨y,h1,h2⟩
  classical
  refine⟨fun i j=>if hh:i<m∧j<k then Classical.choose (each2 i hh.1 j hh.2) else 0,by omega,fun i hi=>⟨b,off,rfl,fun j hj=>?_⟩⟩
  have hh:i<m∧j<k:=⟨by omega,hj⟩
  simp only[dif_pos hh]
  exact Classical.choose_spec (each2 i hh.1 j hh.2)
end
section
set_option linter.unusedVariables false
def at2 (ps:List (Nat × Nat)) (i:Nat):Nat × Nat:=ps.getD i (0,0)
def FreeP (R:Reg) (w:World) (v:Value) (ps:List (Nat × Nat)):Prop:=
 ∃ a cap,v=.slice a ps.length cap∧ps.length≤maxLen∧∀ i,i<ps.length→∃ b off,a=some ⟨b,off,none⟩∧R b=none∧w.cell? ⟨b,off+2*i,none⟩=some (.int .u8 ((at2 ps i).1:Int))∧w.cell? ⟨b,off+2*i+1,none⟩=some (.int .u8 ((at2 ps i).2:Int))∧(at2 ps i).1≤255∧(at2 ps i).2≤255
theorem FreeP.ev {R R1:Reg} {w w1:World} {v:Value} {ps:List (Nat × Nat)} (h:FreeP R w v ps) (he:Ev R w R1 w1):FreeP R1 w1 v ps:=by
 obtain⟨a,cap,h1,h2,h3⟩:=h
 refine⟨a,cap,h1,h2,fun i hi=>?_⟩
 obtain⟨b,off,e,hb,c0,c1,l⟩:=h3 i hi
 have hlt:=lt_of_cell c0
 exact⟨b,off,e,he.free b hlt hb,(he.cell hlt hb).trans c0,(he.cell hlt hb).trans c1,l⟩
theorem FreeP.cells {R:Reg} {w:World} {a:Option Addr} {n c:Nat} {ps:List (Nat × Nat)} (h:FreeP R w (.slice a n c) ps) (i:Nat) (hi:i<ps.length):∃ b off,a=some ⟨b,off,none⟩∧R b=none∧w.cell? ⟨b,off+2*i,none⟩=some (.int .u8 ((at2 ps i).1:Int))∧w.cell? ⟨b,off+2*i+1,none⟩=some (.int .u8 ((at2 ps i).2:Int))∧(at2 ps i).1≤255∧(at2 ps i).2≤255:=by
 obtain⟨a',cap,e,_,h⟩:=h
 cases e
 exact h i hi
theorem FreeP.of_grid {w:World} {a:Option Addr} {len cap:Nat} {Z:Nat→Nat→Nat} (h:IsGrid 2 w a len Z):∃ ps,FreeP noReg w (.slice a len cap) ps:=by
 obtain⟨hm,hc⟩:=h
 have hl:((List.range len).map fun i=>(Z i 0,Z i 1)).length=len:=by simp
 refine⟨(List.range len).map fun i=>(Z i 0,Z i 1),a,cap,by rw[hl],by rw[hl];exact hm,fun i hi=>?_⟩
 rw[hl] at hi
 obtain⟨b,off,e,hz⟩:=hc i hi
 have ha:at2 ((List.range len).map fun i=>(Z i 0,Z i 1)) i=(Z i 0,Z i 1):=by
  unfold at2
  simp[List.getD,List.getElem?_map,List.getElem?_range hi]
 rw[ha]
 obtain⟨h0,k0⟩:=hz 0 (by omega)
 obtain⟨h1,k1⟩:=hz 1 (by omega)
 exact⟨b,off,e,rfl,h0,h1,k0,k1⟩
end
end Go.Proofs.Ytgphnkkdmlohlaa
