/- walk.Of: the walk. -/
import Derived.Test.YtklkgicjfnbndaaGreatZU19
import Derived.Test.YtklkgicjfnbndaaGreatZU11
import Derived.Test.YtklkgicjfnbndaaGreatZU16
namespace Go.Proofs.YtklkgicjfnbndaaGreat
section
open Go.RowKit
set_option linter.unusedVariables false
end
section
set_option linter.unusedVariables false
def opL (L:List Int) (i:Nat):Bool:=decide (nth L i=1)
def mateL (op:Nat→Bool) (n i:Nat):List Int:=(List.range n).map fun j=>(((stk op i).2 j:Nat):Int)
def stackL (op:Nat→Bool) (i:Nat):List Int:=toI (stk op i).1.reverse
theorem mateL_length (op:Nat→Bool) (n i:Nat):(mateL op n i).length=n:=by simp[mateL]
theorem mateL_nth {op:Nat→Bool} {n i j:Nat} (h:j<n):nth (mateL op n i) j=(((stk op i).2 j:Nat):Int):=by
 simp[mateL,nth,h]
theorem mateL_zero (op:Nat→Bool) (n:Nat):mateL op n 0=List.replicate n 0:=by
 refine List.ext_getElem (by simp[mateL]) fun i h1 h2=>?_
 simp[mateL,stk]
theorem mateL_open {op:Nat→Bool} {n i:Nat} (h:op i=true):mateL op n (i+1)=mateL op n i:=by
 unfold mateL;rw[stk_open h]
theorem nth_set_if (xs:List Int) (i j:Nat) (y:Int) (hj:j<xs.length):nth (xs.set i y) j=if i=j then y else nth xs j:=by
 by_cases h:i=j
 ·subst h
  simp[nth,hj]
 ·simp[nth,h]
theorem mateL_close {op:Nat→Bool} {n i o:Nat} {r:List Nat} (h:op i=false) (hs:(stk op i).1=o :: r):mateL op n (i+1)=((mateL op n i).set i (o:Int)).set o (i:Int):=by
 refine ext_nth (by simp[mateL_length]) fun j hj=>?_
 rw[mateL_length] at hj
 rw[mateL_nth hj,stk_close h hs,nth_set_if _ _ _ _ (by rw[List.length_set,mateL_length];exact hj),nth_set_if _ _ _ _ (by rw[mateL_length];exact hj),mateL_nth hj]
 show (((if j=o then i else if j=i then o else (stk op i).2 j:Nat)):Int)=_
 by_cases h1:j=o
 ·rw[if_pos h1,if_pos h1.symm]
 ·have h1':¬ o=j:=fun e=>h1 e.symm
  by_cases h2:j=i
  ·subst h2;simp[h1,h1']
  ·have h2':¬ i=j:=fun e=>h2 e.symm
   simp[h1,h1',h2,h2']
theorem stackL_open {op:Nat→Bool} {i:Nat} (h:op i=true):stackL op (i+1)=stackL op i ++ [(i:Int)]:=by
 unfold stackL;rw[stk_open h];simp[toI]
theorem stackL_close {op:Nat→Bool} {i o:Nat} {r:List Nat} (h:op i=false) (hs:(stk op i).1=o :: r):stackL op i=stackL op (i+1) ++ [(o:Int)]:=by
 unfold stackL;rw[stk_close h hs,hs];simp[toI]
theorem stk_height (op:Nat→Bool):∀ i,(stk op i).1.length≤i
 | 0=>Nat.le_refl _
 | i+1=>by
  have h:=stk_height op i
  cases ho:op i with
  | true=>rw[stk_open ho];simp;omega
  | false=>
   cases hs:(stk op i).1 with
   | nil=>
    show ((if op i=true then _ else _:List Nat × (Nat→Nat))).1.length≤_
    rw[if_neg (by simp[ho]),hs]
    simp
   | cons o r=>
    rw[stk_close ho hs]
    rw[hs] at h
    simp at h ⊢
    omega
theorem stackL_length (op:Nat→Bool) (i:Nat):(stackL op i).length≤i:=by
 have:=stk_height op i
 simp[stackL,toI]
 exact this
end
section
open Go.RowKit
set_option linter.unusedVariables false
def RetMates (R:Reg) (w:World) (xs:List Int) (n:Nat) (e:Ending) (w':World):Prop:=
 ∃ a c v,e=.returned (.tuple #[.slice a n c,v])∧Ev R w R w'∧OwnI R w.heap.size 3 w' (.slice a n c) xs
theorem last_app (xs:List Int) (y:Int):nth (xs ++ [y]) xs.length=y:=by simp[nth]
theorem cell_new {w:World} {g:Nat} (hg:w.heap.size=g) (v:Value) (E:TypeId):(w.alloc (.cells #[v] E)).cell? ⟨g,0,none⟩=some v:=by
 subst hg;simp
structure M3 (R:Reg) (w0 w:World) (a6:Option Addr) (l6 c6:Nat) (S M Y:List Int) (g4 g5 n:Nat):Prop where
 ev:Ev R w0 R w
 st:OwnI R w0.heap.size 3 w (.slice a6 l6 c6) S
 m4:OwnI R w0.heap.size 3 w (.slice (some ⟨g4,0,none⟩) n n) M
 m5:OwnI R w0.heap.size 3 w (.slice (some ⟨g5,0,none⟩) n n) Y
 l4:M.length=n
 l5:Y.length=n
 ne:g4≠g5
 ds:∀ k,(Value.slice a6 l6 c6).ownBlock=some k→k≠g4∧k≠g5
theorem M3.put5 {R:Reg} {w0 w:World} {a6:Option Addr} {l6 c6:Nat} {S M Y:List Int} {g4 g5 n:Nat} (h:M3 R w0 w a6 l6 c6 S M Y g4 g5 n) {i:Nat} (hi:i<n) (y:Int):M3 R w0 (w.setCell ⟨g5,i,none⟩ (.int .i64 y)) a6 l6 c6 S M (Y.set i y) g4 g5 n where
 ev:=h.ev.setCell (h.m5.lt g5 rfl).1 (h.m5.2 g5 rfl) _
 st:=h.st.setCell (fun e=>(h.ds _ e).2 rfl) _
 m4:=h.m4.setCell (fun e=>h.ne (by simpa [Value.ownBlock] using e)) _
 m5:=h.m5.put h.l5 i hi y
 l4:=h.l4
 l5:=by rw[List.length_set];exact h.l5
 ne:=h.ne
 ds:=h.ds
theorem M3.put4 {R:Reg} {w0 w:World} {a6:Option Addr} {l6 c6:Nat} {S M Y:List Int} {g4 g5 n:Nat} (h:M3 R w0 w a6 l6 c6 S M Y g4 g5 n) {i:Nat} (hi:i<n) (y:Int):M3 R w0 (w.setCell ⟨g4,i,none⟩ (.int .i64 y)) a6 l6 c6 S (M.set i y) Y g4 g5 n where
 ev:=h.ev.setCell (h.m4.lt g4 rfl).1 (h.m4.2 g4 rfl) _
 st:=h.st.setCell (fun e=>(h.ds _ e).1 rfl) _
 m4:=h.m4.put h.l4 i hi y
 m5:=h.m5.setCell (fun e=>h.ne (by simpa [Value.ownBlock] using e.symm)) _
 l4:=by rw[List.length_set];exact h.l4
 l5:=h.l5
 ne:=h.ne
 ds:=h.ds
theorem M3.alloc {R:Reg} {w0 w:World} {a6:Option Addr} {l6 c6:Nat} {S M Y:List Int} {g4 g5 n:Nat} (h:M3 R w0 w a6 l6 c6 S M Y g4 g5 n) (o:Obj):M3 R w0 (w.alloc o) a6 l6 c6 S M Y g4 g5 n where
 ev:=h.ev.alloc o
 st:=h.st.alloc o
 m4:=h.m4.alloc o
 m5:=h.m5.alloc o
 l4:=h.l4
 l5:=h.l5
 ne:=h.ne
 ds:=h.ds
theorem M3.pop {R:Reg} {w0 w:World} {a6:Option Addr} {l6 c6:Nat} {S M Y:List Int} {g4 g5 n:Nat} {y:Int} (h:M3 R w0 w a6 l6 c6 (S ++ [y]) M Y g4 g5 n):M3 R w0 w a6 (l6-1) c6 S M Y g4 g5 n where
 ev:=h.ev
 st:=h.st.pop
 m4:=h.m4
 m5:=h.m5
 l4:=h.l4
 l5:=h.l5
 ne:=h.ne
 ds:=fun k e=>by
  cases a6 with
  | none=>cases e
  | some a=>exact h.ds k e
theorem M3.app {R:Reg} {w0 w w1:World} {a6:Option Addr} {l6 c6:Nat} {S S1 M Y:List Int} {g4 g5 n:Nat} (h:M3 R w0 w a6 l6 c6 S M Y g4 g5 n) {a8:Option Addr} {l8 c8:Nat} (ho:OwnI R w0.heap.size 3 w1 (.slice a8 l8 c8) S1) (hg:w.grownBy w1 (Value.slice a6 l6 c6).ownBlock) (hs:∀ k,(Value.slice a8 l8 c8).ownBlock=some k→(Value.slice a6 l6 c6).ownBlock=some k∨w.heap.size≤k):M3 R w0 w1 a8 l8 c8 S1 M Y g4 g5 n where
 ev:=h.ev.app h.st (Nat.le_refl _) hg
 st:=ho
 m4:=h.m4.kept hg (Or.inr fun e=>(h.ds _ e.symm).1 rfl)
 m5:=h.m5.kept hg (Or.inr fun e=>(h.ds _ e.symm).2 rfl)
 l4:=h.l4
 l5:=h.l5
 ne:=h.ne
 ds:=fun k e=>by
  rcases hs k e with e|e
  ·exact h.ds k e
  ·have h4:=(h.m4.lt g4 rfl).2
   have h5:=(h.m5.lt g5 rfl).2
   omega
theorem M3.at4 {R:Reg} {w0 w:World} {a6:Option Addr} {l6 c6:Nat} {S M Y:List Int} {g4 g5 n:Nat} (h:M3 R w0 w a6 l6 c6 S M Y g4 g5 n) {i:Nat} (hi:i<n):w.cell? ⟨g4,i,none⟩=some (.int .i64 (nth M i))∧w.frozen? ⟨g4,i,none⟩=false:=by
 obtain⟨_,e,_,_,h1,h2⟩:=h.m4.headAt h.l4 hi
 cases e
 exact⟨h1,h2⟩
theorem M3.at5 {R:Reg} {w0 w:World} {a6:Option Addr} {l6 c6:Nat} {S M Y:List Int} {g4 g5 n:Nat} (h:M3 R w0 w a6 l6 c6 S M Y g4 g5 n) {i:Nat} (hi:i<n):w.cell? ⟨g5,i,none⟩=some (.int .i64 (nth Y i))∧w.frozen? ⟨g5,i,none⟩=false:=by
 obtain⟨_,e,_,_,h1,h2⟩:=h.m5.headAt h.l5 hi
 cases e
 exact⟨h1,h2⟩
theorem M3.top {R:Reg} {w0 w:World} {a6:Option Addr} {l6 c6:Nat} {S M Y:List Int} {y:Int} {g4 g5 n:Nat} (h:M3 R w0 w a6 l6 c6 (S ++ [y]) M Y g4 g5 n):∃ m g6,l6=m+1∧S.length=m∧a6=some ⟨g6,0,none⟩∧m+1≤c6∧g6≠g4∧g6≠g5∧w.cell? ⟨g6,m,none⟩=some (.int .i64 y):=by
 have hl:=h.st.ints.length_eq
 have hl:l6=S.length+1:=by rw[hl];simp
 obtain⟨g,e,_,_,h1,_⟩:=h.st.headAt (i:=S.length) (by rw[hl];simp) (by omega)
 rw[last_app] at h1
 subst e
 obtain⟨a',cap',e,hc,_⟩:=h.st.ints
 cases e
 exact⟨S.length,g,hl,rfl,rfl,by simp at hc;omega,(h.ds g rfl).1,(h.ds g rfl).2,h1⟩
set_option maxRecDepth 100000 in
set_option maxHeartbeats 2000000 in
theorem r3mates_any (R:Reg) (w:World) (hI:Inv R w) (v:Value) (L:List Int) (hv:FreeI R w v L) (hn:L.length≤1000000) (op:Nat→Bool) (hop:∀ i,i<L.length→(op i=true↔nth L i=1)) (hne:∀ i,i<L.length→op i=false→(stk op i).1≠[]):
  Calls Tryz.prog 151 #[v] w (RetMates R w (mateL op L.length L.length) L.length):=by
 obtain⟨a0,cap0,rfl,hv⟩:=hv.open
 obtain⟨n,hl⟩:∃ n,L.length=n:=⟨_,rfl⟩
 rw[hl] at hv hop hne hn ⊢
 have HL:=Lib.hid hl
 have HV:=Lib.hid hv
 have HOp:=Lib.hid hop
 have HNe:=Lib.hid hne
 have HI:=Lib.hid hI
 obtain⟨i0,hi,hz0,hz1,hz2⟩:=info_parts int_info
 clear hl hv hop hI hne
 go_enter Tryz.func151,Tryz.ntmps151
 go_wp2_with fail
 obtain⟨o1,ho1⟩:∃ o,Obj.cells (madeCells #[Value.int .i64 0] (n*1)) 3=o:=⟨_,rfl⟩
 have hms1:=make_eq (n:=n) Tryz.underlying25 hi hz0 hz1 (by rw[hz2];omega) (by unfold maxLen;omega)
 have HO1:=Lib.hid (fun (W:World) hI hB=>rowI_made (R:=R) (W:=W) (B:=w.heap.size) (n:=n) hI hB (by unfold maxLen;omega))
 simp only[Value.cells,ho1] at hms1 HO1
 clear ho1
 have HE0:=Lib.hid (Ev.refl HI.out)
 go_cut [4,5] (fun s4 s5 wx=>∃ g4 g5,s4=.slice (some ⟨g4,0,none⟩) n n∧s5=.slice (some ⟨g5,0,none⟩) n n∧g4≠g5∧Ev R w R wx∧OwnI R w.heap.size 3 wx (.slice (some ⟨g4,0,none⟩) n n) (List.replicate n 0)∧OwnI R w.heap.size 3 wx (.slice (some ⟨g5,0,none⟩) n n) (List.replicate n 0))
 case first=>
  go_region_with fail
  all_goals (go_wp2_with fail;go_meet)
  all_goals first
   |(refine⟨_,_,rfl,rfl,?_,((HE0.out.alloc o1).alloc o1).drew,((HO1.out _ HE0.out.inv HE0.out.size).alloc o1).drew,?_⟩
     ·simp
     ·have:=(HO1.out _ (HE0.out.alloc o1).inv (HE0.out.alloc o1).size).drew
      simpa using this)
   |(refine⟨_,_,rfl,rfl,?_,((HE0.out.alloc o1).alloc o1).drew,?_,((HO1.out _ HE0.out.inv HE0.out.size).alloc o1).drew⟩
     ·simp
     ·have:=(HO1.out _ (HE0.out.alloc o1).inv (HE0.out.alloc o1).size).drew
      simpa using this)
 case rest=>
  obtain⟨g4,g5,rfl,rfl,hne45,he,ho4,ho5⟩:=hcut
  have HM0:=Lib.hid (M3.mk (a6:=none) (l6:=0) (c6:=0) he (OwnI.nil R _ _ _) ho4 ho5 (by simp) (by simp) hne45 fun k h=>by cases h)
  clear he ho4 ho5 hms1 HO1 HE0 hne45
  go_wp2_with fail
  go_loopg [6,18] n (fun g v6 v18 wr=>∃ (i:Nat) (a6:Option Addr) (l6 c6:Nat) (Y:List Int),i≤n∧n-i≤g∧v18=.int .i64 (i:Int)∧v6=.slice a6 l6 c6∧M3 R w wr a6 l6 c6 (stackL op i) (mateL op n i) Y g4 g5 n)
  case atStart=>exact⟨0,none,0,0,List.replicate n 0,Nat.zero_le _,by omega,rfl,rfl,by rw[mateL_zero];exact HM0.out⟩
  case round=>
   obtain⟨i,a6,l6,c6,Y,hi,hg,rfl,rfl,hm⟩:=hrel
   have HM:=Lib.hid hm
   clear hm
   by_cases hil:i<n
   ·obtain⟨bS,oS,rfl,hc⟩:=(HV.out.ev HM.out.ev).1.cell (i:=i) (by rw[HL.out];exact hil)
    obtain⟨hc5,hz5⟩:=HM.out.at5 hil
    have hop:=HOp.out i hil
    obtain⟨k,hkx⟩:∃ k,nth L i=k:=⟨_,rfl⟩
    rw[hkx] at hc hop
    clear hkx
    have hsl:=stackL_length op i
    by_cases hk:k=1
    ·subst hk
     have ho:=hop.2 rfl
     have hst:=stackL_open ho
     have hmt:=mateL_open (n:=n) ho
     have HST:=Lib.hid hst
     have HMT:=Lib.hid hmt
     have HSL:=Lib.hid hsl
     clear hop ho hst hmt hsl
     rcases List.eq_nil_or_concat (stackL op i) with hs6|⟨S,y,hs6⟩
     ·have hl6:l6=0:=by rw[HM.out.st.ints.length_eq,hs6];rfl
      subst hl6
      clear hs6
      have HMa:=Lib.hid ((HM.out.put5 hil (-1)).alloc (.cells #[.int .i64 (i:Int)] 3))
      go_wp2_with (at_builtin;refine wpList_app_int (R:=R) (B:=w.heap.size) rfl _ _ rfl HMa.out.st rfl ⟨wr.heap.size,0,none⟩ 1 (i:Int) ?a0 ?a1 ?a2 ?a3 ?a4 ?_)
      case a0=>first|rfl|simp
      case a1=>exact cell_new (by simp) _ _
      case a2=>have:=HSL.out;omega
      case a3=>have:=HM.out.ev.size;simp;omega
      case a4=>exact fun q hq=>HMa.out.ev.inv.none_of_ge (by simp at hq ⊢;omega)
      intro v8 w6 ho8 hg6 hs6
      obtain⟨a8,c8,rfl,_⟩:=ho8.ints.open
      obtain⟨l8,hl8⟩:∃ l,(stackL op i ++ [(i:Int)]).length=l:=⟨_,rfl⟩
      rw[hl8] at ho8 hs6
      try rw[hl8]
      clear hl8
      have HM8:=Lib.hid (HMa.out.app ho8 hg6 fun k e=>by have:=hs6 k e;simpa using this)
      clear ho8 hg6 hs6
      go_wp2_with fail
      go_roundg (n-(i+1))
      case measure=>omega
      case rel=>exact⟨i+1,a8,l8,c8,(Y.set i (-1)),by omega,by omega,by go_num,rfl,by rw[HST.out,HMT.out];exact HM8.out⟩
     ·rw[List.concat_eq_append] at hs6
      have HMs:=HM.out
      rw[hs6] at HMs
      obtain⟨m,g6,rfl,hm6,rfl,hcap,h64,h65,hc6⟩:=HMs.top
      have HMa:=Lib.hid (((HM.out.put5 hil (-1)).put5 hil y).alloc (.cells #[.int .i64 (i:Int)] 3))
      clear HMs
      have hm1:m≤1000000:=by have:=HSL.out;rw[hs6] at this;simp at this;omega
      clear hs6
      have hw:IntKind.i64.wrap ((m:Int)+1-1)=(m:Int):=by
       rw[show ((m:Int)+1-1)=(m:Int) by omega];exact IntWalk.i64_in _ (by omega)
      go_wp2_with (at_builtin;refine wpList_app_int (R:=R) (B:=w.heap.size) rfl _ _ rfl HMa.out.st rfl ⟨wr.heap.size,0,none⟩ 1 (i:Int) ?a0 ?a1 ?a2 ?a3 ?a4 ?_)
      case a0=>first|rfl|simp
      case a1=>exact cell_new (by simp) _ _
      case a2=>have:=HSL.out;omega
      case a3=>have:=HM.out.ev.size;simp;omega
      case a4=>exact fun q hq=>HMa.out.ev.inv.none_of_ge (by simp at hq ⊢;omega)
      intro v8 w6 ho8 hg6 hs6
      obtain⟨a8,c8,rfl,_⟩:=ho8.ints.open
      obtain⟨l8,hl8⟩:∃ l,(stackL op i ++ [(i:Int)]).length=l:=⟨_,rfl⟩
      rw[hl8] at ho8 hs6
      try rw[hl8]
      clear hl8
      have HM8:=Lib.hid (HMa.out.app ho8 hg6 fun k e=>by have:=hs6 k e;simpa using this)
      clear ho8 hg6 hs6
      go_wp2_with fail
      go_roundg (n-(i+1))
      case measure=>omega
      case rel=>exact⟨i+1,a8,l8,c8,((Y.set i (-1)).set i y),by omega,by omega,by go_num,rfl,by rw[HST.out,HMT.out];exact HM8.out⟩
    ·have ho:op i=false:=by
      cases h:op i with
      | true=>exact absurd (hop.1 h) hk
      | false=>rfl
     obtain⟨o,r,hs⟩:∃ o r,(stk op i).1=o :: r:=by
      cases h:(stk op i).1 with
      | nil=>exact absurd h (HNe.out i hil ho)
      | cons o r=>exact⟨o,r,rfl⟩
     have hoi:o<i:=(stk_desc (op:=op) i).2 o (by rw[hs];exact List.mem_cons_self)
     have hon:o<n:=by omega
     have hst:=stackL_close ho hs
     have HMT:=Lib.hid (mateL_close (n:=n) ho hs)
     have HMs:=HM.out
     rw[hst] at HMs
     obtain⟨m,g6,rfl,hm6,rfl,hcap,h64,h65,hc6⟩:=HMs.top
     have hm1:m≤1000000:=by rw[hst] at hsl;simp at hsl;omega
     have HMp:=Lib.hid (((HMs.pop.put4 hil (o:Int)).put4 hon (i:Int)).put5 hil (nth Y o))
     obtain⟨hc4i,hz4i⟩:=HM.out.at4 hil
     obtain⟨hc4o,hz4o⟩:=HM.out.at4 hon
     obtain⟨hc5o,hz5o⟩:=HM.out.at5 hon
     have hne4:=HM.out.ne
     have hio:¬ i=o:=by omega
     have hw:IntKind.i64.wrap ((m:Int)+1-1)=(m:Int):=by
      rw[show ((m:Int)+1-1)=(m:Int) by omega];exact IntWalk.i64_in _ (by omega)
     clear HMs hst hs ho hop hsl
     go_wp2_with fail
     go_roundg (n-(i+1))
     case measure=>omega
     case rel=>exact⟨i+1,_,_,_,Y.set i (nth Y o),by omega,by omega,by go_num,rfl,by rw[HMT.out];exact HMp.out⟩
   ·obtain rfl:i=n:=by omega
    go_wp2_with fail
    go_ret2
    exact⟨_,_,_,rfl,HM.out.ev,HM.out.m4⟩
end
end Go.Proofs.YtklkgicjfnbndaaGreat
