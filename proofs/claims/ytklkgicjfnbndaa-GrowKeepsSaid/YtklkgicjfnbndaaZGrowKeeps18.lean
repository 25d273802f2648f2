/- The walk around a tree that is found on the way: it looks at each dart of the part once. -/
import Derived.Test.YtklkgicjfnbndaaZGrowKeeps15
namespace Go.Proofs.Ytklkgicjfnbndaa
section
set_option linter.unusedVariables false
def vtx (s:List Nat) (x:Nat):Nat:=(nth (namesL s) x).toNat
def getB (l:List Bool) (i:Nat):Bool:=l.getD i false
structure WSt where
 d:Nat
 ed:List Int
 mt:List Bool
def wkind (s:List Nat) (st:WSt):Nat:=
 if nth st.ed (st.d / 2)=0 then (if getB st.mt (vtx s (st.d ^^^ 1))=true then 2 else 0) else if nth st.ed (st.d / 2)=1 then 1 else 3
def wed (s:List Nat) (st:WSt):List Int:=if nth st.ed (st.d / 2)=0 then st.ed.set (st.d / 2) ((wkind s st:Int)+1) else st.ed
def wmt (s:List Nat) (st:WSt):List Bool:=if wkind s st=0 then st.mt.set (vtx s (st.d ^^^ 1)) true else st.mt
def wdart (s:List Nat) (st:WSt):Nat:=at' s (if wkind s st<2 then st.d ^^^ 1 else st.d)
def wnext (s:List Nat) (st:WSt):WSt:=⟨wdart s st,wed s st,wmt s st⟩
def wst (s:List Nat) (V root:Nat):Nat→WSt
 | 0=>⟨root,List.replicate (s.length / 2) 0,(List.replicate V false).set (vtx s root) true⟩
 | i+1=>wnext s (wst s V root i)
def wd (s:List Nat) (V root i:Nat):Nat:=(wst s V root i).d
section
variable {s : List Nat} (hs : IsPerm s) (he : s.length % 2 = 0) {V root : Nat} (hr : root < s.length) (hV : (sizesL s).length ≤ V)
include hs he hr hV
end
end
section
set_option linter.unusedVariables false
section
variable {s : List Nat} (hs : IsPerm s) (he : s.length % 2 = 0) {V root : Nat} (hr : root < s.length) (hV : (sizesL s).length ≤ V)
include hs he hr hV
end
end
end Go.Proofs.Ytklkgicjfnbndaa
