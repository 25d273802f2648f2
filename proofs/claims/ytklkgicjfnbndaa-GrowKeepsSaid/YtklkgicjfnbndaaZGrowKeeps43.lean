/- GrowKeeps: its triples of bytes as they come in. Conditions: none. -/
import Derived.Test.YtklkgicjfnbndaaZGrowKeeps41
import Derived.Test.YtklkgicjfnbndaaZGrowKeeps42
namespace Go.Proofs.Ytklkgicjfnbndaa
theorem FreeA.of_grid {w:World} {a:Option Addr} {len cap:Nat} {Z:Nat→Nat→Nat} (h:IsGrid 3 w a len Z):∃ ws,FreeA noReg w (.slice a len cap) ws:=by
 obtain⟨hm,hc⟩:=h
 have hl:((List.range len).map fun i=>(Z i 0,Z i 1,Z i 2)).length=len:=by simp
 refine⟨(List.range len).map fun i=>(Z i 0,Z i 1,Z i 2),a,cap,by rw[hl],by rw[hl];exact hm,fun i hi=>?_⟩
 rw[hl] at hi
 obtain⟨b,off,e,hz⟩:=hc i hi
 have ha:at3 ((List.range len).map fun i=>(Z i 0,Z i 1,Z i 2)) i=(Z i 0,Z i 1,Z i 2):=by
  unfold at3
  simp[List.getD,List.getElem?_map,List.getElem?_range hi]
 rw[ha]
 obtain⟨h0,k0⟩:=hz 0 (by omega)
 obtain⟨h1,k1⟩:=hz 1 (by omega)
 obtain⟨h2,k2⟩:=hz 2 (by omega)
 exact⟨b,off,e,rfl,h0,h1,h2,k0,k1,k2⟩
end Go.Proofs.Ytklkgicjfnbndaa
