/- canon.Canon. -/
import Derived.Test.YtklkgicjfnbndaaZGrowKeeps25
import Derived.Test.YtklkgicjfnbndaaZGrowKeeps19
import Derived.StillTailTactics
import Derived.OwnWalk
import Derived.Test.YtklkgicjfnbndaaZGrowKeeps13
import Derived.Test.YtklkgicjfnbndaaZGrowKeeps22
import Derived.Test.YtklkgicjfnbndaaZGrowKeeps24
import Derived.Deep.RegionHeld3
import Derived.Test.YtklkgicjfnbndaaZGrowKeeps09
import Derived.Test.YtklkgicjfnbndaaZGrowKeeps05
import Derived.Test.YtklkgicjfnbndaaZGrowKeeps14
import Derived.Test.YtklkgicjfnbndaaZGrowKeeps01
namespace Go.Proofs.Ytklkgicjfnbndaa
section
open Go.RowKit
set_option linter.unusedVariables false
end
section
open Go.RowKit
set_option linter.unusedVariables false
end
section
open Go.RowKit Go.Maps
set_option linter.unusedVariables false
theorem Ev.boxC3 {R R':Reg} {w0 w':World} {b:Nat} {x y z:Value} {T:TypeId} (hb:w0.heap[b]?=some (.cells #[x,y,z] T (0,0))) (hn:R b=none) (h:Ev R w0 R' w'):
  w'.heap[b]?=some (.cells #[x,y,z] T (0,0))∧R' b=none:=⟨(h.block b (lt_of_block hb) hn).trans hb,h.free b (lt_of_block hb) hn⟩
theorem boxC_cells {w:World} {b:Nat} {x y z:Value} {T:TypeId} (hb:w.heap[b]?=some (.cells #[x,y,z] T (0,0))):w.cell? ⟨b,0,none⟩=some x∧w.cell? ⟨b,1,none⟩=some y∧w.cell? ⟨b,2,none⟩=some z∧∀ o,w.frozen? ⟨b,o,none⟩=false:=
 ⟨cells_at hb 0,cells_at hb 1,cells_at hb 2,fun o=>by simp[World.frozen?,hb]⟩
end
section
open Go.RowKit
set_option linter.unusedVariables false
structure DraftAt (R0:Reg) (w0:World) (R:Reg) (w:World) (b:Nat) (p:Value) (L:List Nat):Prop where
 ev:Ev R0 w0 R w
 lt:w0.heap.size≤b
 nb:R b=none
 ex:∃ a cap,w.heap[b]?=some (.cells #[p,.slice a L.length cap] 100 (0,0))∧OwnI R w0.heap.size 3 w (.slice a L.length cap) (toI L)∧(Value.slice a L.length cap).ownBlock≠some b
section
variable {R0 R R' : Reg} {w0 w w' : World} {b : Nat} {p : Value} {L : List Nat}
theorem DraftAt.step (h:DraftAt R0 w0 R w b p L) (he:Ev R w R' w'):DraftAt R0 w0 R' w' b p L:=by
 obtain⟨a,cap,h1,h2,h3⟩:=h.ex
 exact⟨h.ev.trans he,h.lt,he.free b (lt_of_block h1) h.nb,a,cap,(he.block b (lt_of_block h1) h.nb).trans h1,h2.ev he,h3⟩
theorem DraftAt.older {R1:Reg} {w1:World} (h:DraftAt R1 w1 R w b p L) (he:Ev R0 w0 R1 w1):DraftAt R0 w0 R w b p L:=by
 obtain⟨a,cap,h1,h2,h3⟩:=h.ex
 exact⟨he.trans h.ev,Nat.le_trans he.size h.lt,h.nb,a,cap,h1,h2.mono he.size,h3⟩
theorem DraftAt.drew (h:DraftAt R0 w0 R w b p L):DraftAt R0 w0 R w.drew b p L:=h.step (Ev.refl h.ev.inv).drew
theorem draft_cells {x y:Value} {T:TypeId} (hb:w.heap[b]?=some (.cells #[x,y] T (0,0))):w.cell? ⟨b,0,none⟩=some x∧w.cell? ⟨b,1,none⟩=some y∧∀ o,w.frozen? ⟨b,o,none⟩=false:=
 ⟨cells_at hb 0,cells_at hb 1,fun o=>by simp[World.frozen?,hb]⟩
theorem DraftAt.put {a:Option Addr} {cap n:Nat} (h:DraftAt R0 w0 R w b p L) (hn:L.length=n) (h1:w.heap[b]?=some (.cells #[p,.slice a n cap] 100 (0,0))) (h2:OwnI R w0.heap.size 3 w (.slice a n cap) (toI L)) (h3:(Value.slice a n cap).ownBlock≠some b) {g:Nat} (hg:a=some ⟨g,0,none⟩) {i:Nat} (hi:i<n) (y:Nat):
  let w1:=w.setCell ⟨g,i,none⟩ (.int .i64 ((y:Nat):Int))
  DraftAt R0 w0 R w1 b p (L.set i y)∧w1.heap[b]?=some (.cells #[p,.slice a n cap] 100 (0,0))∧OwnI R w0.heap.size 3 w1 (.slice a n cap) (toI (L.set i y)):=by
 subst hg
 have hgb:b≠g:=fun e=>h3 (by simp[Value.ownBlock,e])
 have e1:toI (L.set i y)=(toI L).set i ((y:Nat):Int):=by simp[toI,List.map_set]
 have hb:(w.setCell ⟨g,i,none⟩ (.int .i64 ((y:Nat):Int))).heap[b]?=some (.cells #[p,.slice (some ⟨g,0,none⟩) n cap] 100 (0,0)):=by
  rw[Below.heap_setCell _ _ _ _ hgb];exact h1
 have ho:OwnI R w0.heap.size 3 (w.setCell ⟨g,i,none⟩ (.int .i64 ((y:Nat):Int))) (.slice (some ⟨g,0,none⟩) n cap) (toI (L.set i y)):=by
  rw[e1];exact h2.put (by rw[toI_length];exact hn) i hi _
 refine⟨⟨h.ev.setCell (p:=⟨g,i,none⟩) (h2.lt g rfl).1 (h2.2 g rfl) _,h.lt,h.nb,some ⟨g,0,none⟩,cap,?_,?_,?_⟩,hb,ho⟩
 ·rw[List.length_set,hn];exact hb
 ·rw[List.length_set,hn];exact ho
 ·rw[List.length_set,hn];exact h3
end
def inAll (n:Nat) (xs:List Int):Bool:=xs.all fun x=>decide (0≤x∧x<n)
theorem inAll_take {n:Nat} {xs:List Int} {k:Nat} (hk:k<xs.length):inAll n (xs.take (k+1))=(inAll n (xs.take k) && decide (0≤nth xs k∧nth xs k<n)):=by
 unfold inAll
 rw[List.take_succ_eq_append_getElem hk,List.all_append]
 simp[nth,hk]
theorem inAll_le {n:Nat} {xs:List Int} {k:Nat} (hk:inAll n (xs.take k)=false):inAll n xs=false:=by
 unfold inAll at hk ⊢
 rw[List.all_eq_false] at hk ⊢
 obtain⟨x,hx,h⟩:=hk
 exact⟨x,List.mem_of_mem_take hx,h⟩
def RetGof (R:Reg) (w:World) (p:Value) (s:List Nat) (xs:List Int) (e:Ending) (w':World):Prop:=
 (inAll s.length xs=false∧e=.returned (.tuple #[.pointer none,.int .i64 1])∧w=w') ∨
 (inAll s.length xs=true∧∃ b,e=.returned (.tuple #[.pointer (some ⟨b,0,none⟩),.int .i64 0])∧DraftAt R w R w' b p s)
theorem gof_nil (w:World) (v:Value):Calls Try.prog 50 #[.pointer none,v] w fun e w'=>e=.returned (.tuple #[.pointer none,.int .i64 2])∧w=w':=by
 go_enter Try.func50,Try.ntmps50
 go_wp2_with fail
 go_ret2
 exact⟨rfl,rfl⟩
set_option maxRecDepth 100000 in
set_option maxHeartbeats 2000000 in
theorem gof_any (R:Reg) (w:World) (hI:Inv R w) (p:Value) (s:List Nat) (root lone:Int) (hp:MapAt R p s root lone) (v:Value) (xs:List Int) (hv:FreeI R w v xs) (hxn:xs.length≤1000):
  Calls Try.prog 50 #[p,v] w (RetGof R w p s xs):=by
 have HDa:=Lib.hid (darts_any R w hI p s root lone hp)
 have HLs:=Lib.hid (mlist_any R w hI p s root lone hp)
 obtain⟨a,cap,rfl,hv⟩:=hv.open
 have HV:=Lib.hid hv.1
 have HI:=Lib.hid hI
 obtain⟨b,rfl,hb⟩:=hp
 obtain⟨n,hn⟩:∃ n,xs.length=n:=⟨_,rfl⟩
 rw[hn] at hxn HV ⊢
 have HN:=Lib.hid hn
 clear hI hb hv hn
 go_enter Try.func50,Try.ntmps50
 go_wp2_with fail
 go_loopg [12] n (fun g v12 wr=>∃ k:Nat,k≤n∧n-k≤g∧v12=.int .i64 (k:Int)∧inAll s.length (xs.take k)=true∧wr=w)
 case atStart=>exact⟨0,Nat.zero_le _,by omega,rfl,by simp[inAll],rfl⟩
 case round=>
  obtain⟨k,hk,hg,rfl,hin,rfl⟩:=hrel
  by_cases hkn:k<n
  ·obtain⟨bS,oS,rfl,hc⟩:=HV.out.cell (i:=k) (by rw[HN.out];exact hkn)
   have hst:=inAll_take (n:=s.length) (xs:=xs) (k:=k) (by rw[HN.out];exact hkn)
   obtain⟨x,hx⟩:∃ x,nth xs k=x:=⟨_,rfl⟩
   rw[hx] at hc hst
   rw[hin,Bool.true_and] at hst
   have HSt:=Lib.hid hst
   clear hst hx
   by_cases hlo:x<0
   ·have hf:=Lib.hid (HSt.out.trans (decide_eq_false (by omega)))
    go_wp2_with fail
    go_ret2
    exact Or.inl ⟨inAll_le hf.out,rfl,rfl⟩
   ·by_cases hhi:(s.length:Int)≤x
    ·have hf:=Lib.hid (HSt.out.trans (decide_eq_false (by omega)))
     go_wp2_with fail
     refine HDa.out.mono ?_
     rintro e w' ⟨rfl,rfl⟩
     go_wp2_with fail
     go_ret2
     exact Or.inl ⟨inAll_le hf.out,rfl,rfl⟩
    ·have hf:=Lib.hid (HSt.out.trans (decide_eq_true (by omega)))
     have hhi2:x<(s.length:Int):=by omega
     go_wp2_with fail
     refine HDa.out.mono ?_
     rintro e w' ⟨rfl,rfl⟩
     go_wp2_with fail
     go_roundg (n-(k+1))
     case measure=>omega
     case rel=>exact⟨k+1,by omega,by omega,by go_num,hf.out,rfl⟩
  ·obtain rfl:k=n:=by omega
   have hall:inAll s.length xs=true:=by rw[←hin,←HN.out,List.take_length]
   obtain⟨w0,hw0⟩:∃ w0,w0=wr:=⟨_,rfl⟩
   subst hw0
   clear hin
   go_wp2_with fail
   refine HLs.out.mono ?_
   rintro e w1 ⟨v1,rfl,he,ho⟩
   obtain⟨a1,c1,rfl,_⟩:=ho.ints.open
   rw[toI_length] at ho ⊢
   have hne:(Value.slice a1 s.length c1).ownBlock≠some w1.heap.size:=fun e=>by have:=(ho.lt _ e).2;omega
   have HH:=Lib.hid (show Ev R w0 R w1∧OwnI R w0.heap.size 3 w1 (.slice a1 s.length c1) (toI s)∧_ from⟨he,ho,hne⟩)
   clear he ho hne
   go_wp2_with fail
   go_ret2
   obtain⟨he,ho,hne⟩:=HH.out
   refine Or.inr ⟨hall,w1.heap.size,rfl,he.alloc _,he.size,he.inv.none_of_ge (Nat.le_refl _),a1,c1,?_,ho.alloc _,hne⟩
   exact heap_alloc_new _ _
set_option maxRecDepth 100000 in
set_option maxHeartbeats 2000000 in
theorem gedge_any {R0 R:Reg} {w0 w:World} {b:Nat} {p:Value} {L:List Nat} (h:DraftAt R0 w0 R w b p L) (hn:L.length≤4000000):
  Calls Try.prog 52 #[.pointer (some ⟨b,0,none⟩)] w fun e w'=>e=.returned (.int .i64 (L.length:Int))∧DraftAt R0 w0 R w' b p (L ++ [L.length,L.length+1]):=by
 obtain⟨a,cap,h1,h2,h3⟩:=h.ex
 obtain⟨n,hln⟩:∃ n,L.length=n:=⟨_,rfl⟩
 rw[hln] at h1 h2 h3 hn ⊢
 obtain⟨c0,c1,hf⟩:=draft_cells h1
 have hf1:=hf 1
 have HLn:=Lib.hid hln
 have hw1:IntKind.i64.wrap ((n:Int)+1)=((n+1:Nat):Int):=by rw[show (n:Int)+1=((n+1:Nat):Int) by omega];exact IntWalk.i64_in _ (by omega)
 obtain⟨n1,hn1⟩:∃ x,n+1=x:=⟨_,rfl⟩
 rw[hn1] at hw1 ⊢
 have HN1:=Lib.hid hn1
 have H:=Lib.hid h
 have HH:=Lib.hid (show w.heap[b]?=_∧_∧_ from⟨h1,h2,h3⟩)
 have HEa:=Lib.hid (h.ev.alloc (.cells #[.int .i64 (n:Int),.int .i64 (n1:Int)] 3))
 have HOa:=Lib.hid (h2.alloc (.cells #[.int .i64 (n:Int),.int .i64 (n1:Int)] 3))
 have hlb:b<w.heap.size:=lt_of_block h1
 clear h h1 h2 h3 hf hln hn1
 go_enter Try.func52,Try.ntmps52
 go_wp2_with (at_builtin;refine wpList_app_ints (R:=R) (B:=w0.heap.size) rfl _ _ rfl HOa.out rfl ⟨w.heap.size,0,none⟩ 2 2 [(n:Int),(n1:Int)] rfl ?a0 ?a1 ?a2 ?a3 ?a4 ?_)
 try (case a0=>first|rfl|simp)
 case a1=>
  intro j hj
  match j,hj with
  | 0,_=>simp[Addr.add,nth]
  | 1,_=>simp[Addr.add,nth]
 case a2=>rw[toI_length,HLn.out];omega
 case a3=>have:=H.out.ev.size;first|omega|(simp;omega)
 case a4=>exact fun q hq=>HEa.out.inv.none_of_ge (by simp at hq ⊢;omega)
 intro v8 w6 ho8 hg6 hs6
 have hap:toI L ++ [(n:Int),(n1:Int)]=toI (L ++ [n,n1]):=by simp[toI]
 rw[hap] at ho8
 obtain⟨a8,c8,rfl,_⟩:=ho8.ints.open
 have hl8:(toI (L ++ [n,n1])).length=n+2:=by rw[toI_length,List.length_append,HLn.out];rfl
 rw[hl8] at ho8 hs6 ⊢
 obtain⟨k1,k2,k3⟩:=HH.out
 have hb6:w6.heap[b]?=some (.cells #[p,.slice a n cap] 100 (0,0)):=by
  rw[hg6.block b (by simp;omega) (fun e=>k3 e.symm),heap_alloc_old _ _ hlb];exact k1
 have hn8:(Value.slice a8 (n+2) c8).ownBlock≠some b:=fun e=>by
  rcases hs6 b e with h|h
  ·exact k3 h
  ·have h':w.heap.size+1≤b:=by simpa using h
   omega
 obtain⟨d0,d1,df⟩:=draft_cells hb6
 have df1:=df 1
 have HE6:=Lib.hid (HEa.out.app HOa.out (Nat.le_refl _) hg6)
 have HH6:=Lib.hid (show w6.heap[b]?=_∧OwnI R w0.heap.size 3 w6 (.slice a8 (n+2) c8) _∧_ from⟨hb6,ho8,hn8⟩)
 clear hap k1 k2 k3 hg6 hs6 ho8 hb6 hn8 df hl8 c0 c1 hf1 HEa HOa
 go_wp2_with fail
 go_ret
 obtain⟨hb6,ho8,hn8⟩:=HH6.out
 have hlen:(L ++ [n,n1]).length=n+2:=by rw[List.length_append,HLn.out];rfl
 refine⟨rfl,HE6.out.setCell (p:=⟨b,1,none⟩) H.out.lt H.out.nb _,H.out.lt,H.out.nb,a8,c8,?_,?_,?_⟩
 ·rw[hlen];exact heap_setCell_same _ _ 1 _ _ _ hb6
 ·rw[hlen];exact ho8.setCell (a:=⟨b,1,none⟩) hn8 _
 ·rw[hlen];exact hn8
def behindL (L:List Nat) (d at_:Nat):List Nat:=(L.set d (at' L at_)).set at_ d
set_option maxRecDepth 100000 in
set_option maxHeartbeats 2000000 in
theorem gbehind_any {R0 R:Reg} {w0 w:World} {b:Nat} {p:Value} {L:List Nat} (h:DraftAt R0 w0 R w b p L) (hn:L.length≤4000000) {d t:Nat} (hd:d<L.length) (ht:t<L.length):
  Calls Try.prog 51 #[.pointer (some ⟨b,0,none⟩),.int .i64 (d:Int),.int .i64 (t:Int)] w fun e w'=>e=.returned (.tuple #[])∧DraftAt R0 w0 R w' b p (behindL L d t):=by
 obtain⟨a,cap,h1,h2,h3⟩:=h.ex
 obtain⟨n,hln⟩:∃ n,L.length=n:=⟨_,rfl⟩
 rw[hln] at h1 h2 h3 hn hd ht
 obtain⟨g,rfl,_,_,k1,kf1⟩:=h2.headAt (by rw[toI_length];exact hln) ht
 obtain⟨g',e,_,_,_,kf2⟩:=h2.headAt (by rw[toI_length];exact hln) hd
 cases e
 rw[toI_nth] at k1
 obtain⟨y,hy⟩:∃ y,at' L t=y:=⟨_,rfl⟩
 rw[hy] at k1
 obtain⟨q1,q2,q3⟩:=DraftAt.put h hln h1 h2 h3 rfl hd y
 obtain⟨q4,q5,q6⟩:=DraftAt.put q1 (by rw[List.length_set];exact hln) q2 q3 h3 rfl ht d
 obtain⟨g',e,_,_,k2,kf3⟩:=q3.headAt (by rw[toI_length,List.length_set];exact hln) ht
 cases e
 have hq:(L.set d y).set t d=behindL L d t:=by unfold behindL;rw[hy]
 rw[hq] at q4
 obtain⟨c0,c1,hf⟩:=draft_cells h1
 have HQ:=Lib.hid q4
 clear h h1 h2 h3 hf hln q1 q2 q3 q4 q5 q6 hq hy
 go_enter Try.func51,Try.ntmps51
 go_wp2_with fail
 go_region
 all_goals (go_wp2_with fail)
 all_goals go_end0
 all_goals exact⟨rfl,HQ.out.drew⟩
theorem new_two (R:Reg) (w:World) (hI:Inv R w) (v:Value) (xs:List Int) (hv:FreeI R w v xs) (hn:xs.length≤4194304) (root lone:Int):
  Calls Try.prog 27 #[v,.int .i64 root,.int .i64 lone] w fun e w'=>∃ q c,e=.returned (.tuple #[q,.int .i64 c])∧NewPost R w xs root lone (.returned (.tuple #[q,.int .i64 c])) w':=by
 refine (new_any R w hI v xs hv hn root lone).mono ?_
 rintro e w' (⟨h1,rfl,h2⟩|⟨h1,S,p,R',h2,h3,h4,rfl,h5,h6⟩)
 ·exact⟨_,_,rfl,Or.inl ⟨h1,rfl,h2⟩⟩
 ·exact⟨_,_,rfl,Or.inr ⟨h1,S,p,R',h2,h3,h4,rfl,h5,h6⟩⟩
theorem NewPost.ev {R:Reg} {w w':World} {xs:List Int} {root lone:Int} {e:Ending} (k:NewPost R w xs root lone e w'):∃ R',Ev R w R' w':=by
 rcases k with ⟨h1,rfl,R',h2⟩|⟨h1,S,p,R',h2,h3,h4,rfl,h5,h6⟩
 ·exact⟨R',h2⟩
 ·exact⟨R',h5⟩
theorem NewPost.two {R:Reg} {w w':World} {xs:List Int} {root lone:Int} {e:Ending} (k:NewPost R w xs root lone e w'):∃ q c,e=.returned (.tuple #[q,.int .i64 c]):=by
 rcases k with ⟨h1,rfl,R',h2⟩|⟨h1,S,p,R',h2,h3,h4,rfl,h5,h6⟩
 ·exact⟨_,_,rfl⟩
 ·exact⟨_,_,rfl⟩
theorem NewPost.from {R0 R:Reg} {w0 w w':World} {xs:List Int} {root lone:Int} {e:Ending} (h:Ev R0 w0 R w) (k:NewPost R w xs root lone e w'):NewPost R0 w0 xs root lone e w':=by
 rcases k with ⟨h1,rfl,R',h2⟩|⟨h1,S,p,R',h2,h3,h4,rfl,h5,h6⟩
 ·exact Or.inl ⟨h1,rfl,R',h.trans h2⟩
 ·exact Or.inr ⟨h1,S,p,R',h2,h3,h4,rfl,h.trans h5,h6⟩
set_option maxRecDepth 100000 in
set_option maxHeartbeats 2000000 in
theorem gdone_any {R0 R:Reg} {w0 w:World} {b:Nat} {p:Value} {L s:List Nat} (h:DraftAt R0 w0 R w b p L) (root lone:Int) (hp:MapAt R p s root lone) (hn:L.length≤4000000):
  Calls Try.prog 53 #[.pointer (some ⟨b,0,none⟩)] w (NewPost R0 w0 (toI L) root lone):=by
 obtain⟨a,cap,h1,h2,h3⟩:=h.ex
 obtain⟨n,hln⟩:∃ n,L.length=n:=⟨_,rfl⟩
 rw[hln] at h1 h2 h3 hn
 obtain⟨c0,c1,hf⟩:=draft_cells h1
 have HI:=Lib.hid h.ev.inv
 have HRt:=Lib.hid (fun R' w' (he:Ev R w R' w')=>root_any R' w' he.inv p s root lone (he.map hp))
 have HLo:=Lib.hid (fun R' w' (he:Ev R w R' w')=>lone_any R' w' he.inv p s root lone (he.map hp))
 have HNw:=Lib.hid (fun R' w' (he:Ev R w R' w')=>new_two R' w' he.inv _ (toI L) (h2.free.ev he) (by rw[toI_length,hln];omega) root lone)
 have HEv:=Lib.hid h.ev
 have HC:=Lib.hid (fun R' w' (he:Ev R w R' w')=>(show w'.cell? ⟨b,0,none⟩=some p∧w'.cell? ⟨b,1,none⟩=some (.slice a n cap) from by
  have hb:R b=none:=h.nb
  have hl:=lt_of_block h1
  exact⟨(he.cell hl hb).trans c0,(he.cell hl hb).trans c1⟩))
 have HEd:=Lib.hid ((Ev.refl HI.out).drew)
 obtain⟨c0,c1⟩:=HC.out _ _ HEd.out
 clear h h1 h2 h3 hf hln
 go_enter Try.func53,Try.ntmps53
 go_wp2_with fail
 go_region_held3 (fun w'=>w'.cell? ⟨b,0,none⟩=some p∧w'.cell? ⟨b,1,none⟩=some (.slice a n cap)) (exact⟨c0,c1⟩) (first|(go_at_call 11;refine (HRt.out _ _ HEd.out).mono ?_;rintro e w' ⟨rfl,rfl⟩)|(go_at_call 12;refine (HLo.out _ _ HEd.out).mono ?_;rintro e w' ⟨rfl,rfl⟩)|(go_at_call 27;refine (HNw.out _ _ HEd.out).mono ?_;rintro e w2 ⟨q,c,rfl,hpo⟩;obtain⟨R2,he2⟩:=NewPost.ev hpo;have HPo:=Lib.hid (NewPost.from (HEv.out.trans HEd.out) hpo);obtain⟨c0,c1⟩:=HC.out _ _ (HEd.out.trans he2);clear hpo he2))
 all_goals (go_wp2_with fail)
 all_goals go_ret2
 all_goals exact HPo.out
end
section
open Go.RowKit
set_option linter.unusedVariables false
def WayPost (R:Reg) (w:World) (rng dom:Bool) (L:List Nat) (root lone:Int) (e:Ending) (w':World):Prop:=
 (rng=false∧e=.returned (.tuple #[.pointer none,.int .i64 1])∧∃ R',Ev R w R' w') ∨
 (rng=true∧dom=false∧e=.returned (.tuple #[.pointer none,.int .i64 8])∧∃ R',Ev R w R' w') ∨
 (rng=true∧dom=true∧NewPost R w (toI L) root lone e w')
def inR (n:Nat) (d:Int):Bool:=decide (0≤d∧d<n)
theorem inAll_one (n:Nat) (d:Int):inAll n [d]=inR n d:=by simp[inAll,inR]
theorem inAll_two (n:Nat) (d e:Int):inAll n [d,e]=(inR n d && inR n e):=by simp[inAll,inR]
theorem inR_nat {n:Nat} {d:Int} (h:inR n d=true):∃ k:Nat,d=(k:Int)∧k<n:=by
 unfold inR at h
 have:=of_decide_eq_true h
 exact⟨d.toNat,by omega,by omega⟩
def leafL (s:List Nat) (d:Nat):List Nat:=behindL (s ++ [s.length,s.length+1]) s.length d
def chordL (s:List Nat) (d e:Nat):List Nat:=behindL (leafL s d) (s.length+1) (if d=e then s.length else e)
theorem behindL_length (L:List Nat) (d t:Nat):(behindL L d t).length=L.length:=by simp[behindL]
theorem leafL_length (s:List Nat) (d:Nat):(leafL s d).length=s.length+2:=by simp[leafL,behindL_length]
theorem FreeI.one {R:Reg} {w:World} (hI:Inv R w) (x:Int):FreeI R (w.alloc (.cells #[.int .i64 x] 3)) (.slice (some ⟨w.heap.size,0,none⟩) 1 1) [x]:=
 ⟨Ints.alone w x,Or.inr ⟨w.heap.size,0,1,1,rfl,hI.none_of_ge (Nat.le_refl _)⟩⟩
theorem gof_one (R:Reg) (w:World) (hI:Inv R w) (p:Value) (s:List Nat) (root lone:Int) (hp:MapAt R p s root lone) (d:Int):
  Calls Try.prog 50 #[p,.slice (some ⟨w.heap.size,0,none⟩) 1 1] (w.alloc (.cells #[.int .i64 d] 3)) fun e w'=>
   (inR s.length d=false∧e=.returned (.tuple #[.pointer none,.int .i64 1])∧Ev R w R w') ∨
   (inR s.length d=true∧∃ b,e=.returned (.tuple #[.pointer (some ⟨b,0,none⟩),.int .i64 0])∧DraftAt R w R w' b p s):=by
 have he:=(Ev.refl hI).alloc (.cells #[.int .i64 d] 3)
 refine (gof_any R _ he.inv p s root lone (he.map hp) _ [d] (FreeI.one hI d) (by simp)).mono ?_
 rintro e w' (⟨h1,rfl,rfl⟩|⟨h1,b,rfl,h⟩)
 ·exact Or.inl ⟨by rw[←inAll_one];exact h1,rfl,he⟩
 ·exact Or.inr ⟨by rw[←inAll_one];exact h1,b,rfl,h.older he⟩
theorem gof_two (R:Reg) (w:World) (hI:Inv R w) (p:Value) (s:List Nat) (root lone:Int) (hp:MapAt R p s root lone) (d d':Int):
  Calls Try.prog 50 #[p,.slice (some ⟨w.heap.size,0,none⟩) 2 2] (w.alloc (.cells #[.int .i64 d,.int .i64 d'] 3)) fun e w'=>
   ((inR s.length d && inR s.length d')=false∧e=.returned (.tuple #[.pointer none,.int .i64 1])∧Ev R w R w') ∨
   ((inR s.length d && inR s.length d')=true∧∃ b,e=.returned (.tuple #[.pointer (some ⟨b,0,none⟩),.int .i64 0])∧DraftAt R w R w' b p s):=by
 have he:=(Ev.refl hI).alloc (.cells #[.int .i64 d,.int .i64 d'] 3)
 refine (gof_any R _ he.inv p s root lone (he.map hp) _ [d,d'] (FreeI.two hI d d') (by simp)).mono ?_
 rintro e w' (⟨h1,rfl,rfl⟩|⟨h1,b,rfl,h⟩)
 ·exact Or.inl ⟨by rw[←inAll_two];exact h1,rfl,he⟩
 ·exact Or.inr ⟨by rw[←inAll_two];exact h1,b,rfl,h.older he⟩
set_option maxRecDepth 100000 in
set_option maxHeartbeats 2000000 in
theorem leaf_any (R:Reg) (w:World) (hI:Inv R w) (p:Value) (s:List Nat) (root lone:Int) (hp:MapAt R p s root lone) (d:Int):
  Calls Try.prog 22 #[p,.int .i64 d] w (WayPost R w (inR s.length d) true (leafL s d.toNat) root lone):=by
 have hn:s.length≤131073:=(hp.ok hI).2.2.1
 have HOf:=Lib.hid (gof_one R w hI p s root lone hp d)
 have HP:=Lib.hid hp
 have hll:=leafL_length s d.toNat
 clear hI hp
 go_enter Try.func22,Try.ntmps22
 go_wp2_with fail
 refine HOf.out.mono ?_
 rintro e w1 (⟨h1,rfl,he⟩|⟨h1,b,rfl,hd⟩)
 ·have HE:=Lib.hid he
  have H1:=Lib.hid h1
  clear he h1
  go_wp2_with fail
  go_ret2
  exact Or.inl ⟨H1.out,rfl,R,HE.out⟩
 ·obtain⟨k,rfl,hk⟩:=inR_nat h1
  have HD1:=Lib.hid hd
  have H1:=Lib.hid h1
  rw[Int.toNat_natCast] at hll ⊢
  clear hd h1 HOf
  go_wp2_with fail
  refine (gedge_any HD1.out (by omega)).mono ?_
  rintro e w2 ⟨rfl,hd2⟩
  have HD2:=Lib.hid hd2
  have hb:=gbehind_any hd2 (d:=s.length) (t:=k) (by simp;omega) (by simp) (by simp;omega)
  have HB:=Lib.hid hb
  clear hd2 hb
  go_wp2_with fail
  refine HB.out.mono ?_
  rintro e w3 ⟨rfl,hd3⟩
  have HD3:=Lib.hid hd3
  have HDn:=Lib.hid (gdone_any hd3 root lone (hd3.ev.map HP.out) (by show (leafL s k).length≤_;omega))
  clear hd3 HB
  go_wp2_with fail
  refine HDn.out.mono ?_
  rintro e w4 hpo
  have hpo2:NewPost R w (toI (leafL s k)) root lone e w4:=hpo
  obtain⟨q,c,rfl⟩:=hpo2.two
  have HPo:=Lib.hid hpo2
  clear hpo hpo2 HDn
  go_wp2_with fail
  go_ret2
  exact Or.inr (Or.inr ⟨H1.out,rfl,HPo.out⟩)
set_option maxRecDepth 100000 in
set_option maxHeartbeats 2000000 in
theorem chord_any (R:Reg) (w:World) (hI:Inv R w) (p:Value) (s:List Nat) (root lone:Int) (hp:MapAt R p s root lone) (d d':Int):
  Calls Try.prog 28 #[p,.int .i64 d,.int .i64 d'] w (WayPost R w (inR s.length d && inR s.length d') (decide (nameI (phiL s) (atI s d)=nameI (phiL s) (atI s d'))) (chordL s d.toNat d'.toNat) root lone):=by
 have hn:s.length≤131073:=(hp.ok hI).2.2.1
 have HOf:=Lib.hid (gof_two R w hI p s root lone hp d d')
 have HP:=Lib.hid hp
 have HSg:=Lib.hid (fun R' w' (h:Ev R w R' w') d=>sigma_any R' w' h.inv p s root lone (h.map hp) d)
 have HFc:=Lib.hid (fun R' w' (h:Ev R w R' w') d=>face_any R' w' h.inv p s root lone (h.map hp) d)
 obtain⟨f1,hf1⟩:∃ x,nameI (phiL s) (atI s d)=x:=⟨_,rfl⟩
 obtain⟨f2,hf2⟩:∃ x,nameI (phiL s) (atI s d')=x:=⟨_,rfl⟩
 rw[hf1,hf2]
 have HF1:=Lib.hid hf1
 have HF2:=Lib.hid hf2
 clear hI hp hf1 hf2
 go_enter Try.func28,Try.ntmps28
 go_wp2_with fail
 refine HOf.out.mono ?_
 rintro e w1 (⟨h1,rfl,he⟩|⟨h1,b,rfl,hd⟩)
 ·have HE:=Lib.hid he
  have H1:=Lib.hid h1
  clear he h1
  go_wp2_with fail
  go_ret2
  exact Or.inl ⟨H1.out,rfl,R,HE.out⟩
 ·have HD1:=Lib.hid hd
  have H1:=Lib.hid h1
  clear hd h1 HOf
  go_wp2_with fail
  refine (HSg.out _ _ HD1.out.ev d).mono ?_
  rintro e w' ⟨rfl,rfl⟩
  go_wp2_with fail
  refine (HFc.out _ _ HD1.out.ev _).mono ?_
  rintro e w2 ⟨rfl,R2,he2⟩
  have HD2:=Lib.hid (HD1.out.step he2)
  rw[HF1.out]
  clear he2
  go_wp2_with fail
  refine (HSg.out _ _ HD2.out.ev d').mono ?_
  rintro e w' ⟨rfl,rfl⟩
  go_wp2_with fail
  refine (HFc.out _ _ HD2.out.ev _).mono ?_
  rintro e w3 ⟨rfl,R3,he3⟩
  have HD3:=Lib.hid (HD2.out.step he3)
  rw[HF2.out]
  clear he3 HD1 HD2
  by_cases hff:f1=f2
  ·subst hff
   have hbn:(f1 != f1)=false:=by simp
   obtain⟨hr1,hr2⟩:=Bool.and_eq_true_iff.1 H1.out
   obtain⟨k,rfl,hk⟩:=inR_nat hr1
   obtain⟨k',rfl,hk'⟩:=inR_nat hr2
   have hll:=leafL_length s k
   clear hr1 hr2
   go_wp2_with fail
   refine (gedge_any HD3.out (by omega)).mono ?_
   rintro e w4 ⟨rfl,hd4⟩
   have HD4:=Lib.hid hd4
   have HB:=Lib.hid (gbehind_any hd4 (d:=s.length) (t:=k) (by simp;omega) (by simp) (by simp;omega))
   have hw1:IntKind.i64.wrap ((s.length:Int)+1)=((s.length+1:Nat):Int):=by rw[show (s.length:Int)+1=((s.length+1:Nat):Int) by omega];exact IntWalk.i64_in _ (by omega)
   clear hd4
   go_wp2_with fail
   refine HB.out.mono ?_
   rintro e w5 ⟨rfl,hd5⟩
   have hd5':DraftAt R w R3 w5 b p (leafL s k):=hd5
   have HD5:=Lib.hid hd5'
   clear hd5 hd5' HB
   by_cases hkk:k=k'
   ·subst hkk
    have hbe:((k:Int) == (k:Int))=true:=by simp
    have HB:=Lib.hid (gbehind_any HD5.out (d:=s.length+1) (t:=s.length) (by omega) (by omega) (by omega))
    have hcl:behindL (leafL s k) (s.length+1) s.length=chordL s k k:=by unfold chordL;rw[if_pos rfl]
    rw[hcl] at HB
    have hcn:(chordL s k k).length=s.length+2:=by unfold chordL;rw[behindL_length];exact hll
    have HCn:=Lib.hid hcn
    clear hcl hcn
    go_wp2_with fail
    refine HB.out.mono ?_
    rintro e w6 ⟨rfl,hd6⟩
    have HDn:=Lib.hid (gdone_any hd6 root lone (hd6.ev.map HP.out) (by have:=HCn.out;omega))
    clear hd6 HB
    go_wp2_with fail
    refine HDn.out.mono ?_
    rintro e w7 hpo
    obtain⟨q,c,rfl⟩:=hpo.two
    have HPo:=Lib.hid hpo
    clear hpo HDn
    go_wp2_with fail
    go_ret2
    exact Or.inr (Or.inr ⟨H1.out,by simp,HPo.out⟩)
   ·have hbe:((k:Int) == (k':Int))=false:=by simp;omega
    have HB:=Lib.hid (gbehind_any HD5.out (d:=s.length+1) (t:=k') (by omega) (by omega) (by omega))
    have hcl:behindL (leafL s k) (s.length+1) k'=chordL s k k':=by unfold chordL;rw[if_neg hkk]
    rw[hcl] at HB
    have hcn:(chordL s k k').length=s.length+2:=by unfold chordL;rw[behindL_length];exact hll
    have HCn:=Lib.hid hcn
    clear hcl hcn
    go_wp2_with fail
    refine HB.out.mono ?_
    rintro e w6 ⟨rfl,hd6⟩
    have HDn:=Lib.hid (gdone_any hd6 root lone (hd6.ev.map HP.out) (by have:=HCn.out;omega))
    clear hd6 HB
    go_wp2_with fail
    refine HDn.out.mono ?_
    rintro e w7 hpo
    obtain⟨q,c,rfl⟩:=hpo.two
    have HPo:=Lib.hid hpo
    clear hpo HDn
    go_wp2_with fail
    go_ret2
    exact Or.inr (Or.inr ⟨H1.out,by simp,HPo.out⟩)
  ·have hbn:(f1 != f2)=true:=by simp[hff]
   go_wp2_with fail
   go_ret2
   exact Or.inr (Or.inl ⟨H1.out,by simp[hff],rfl,R3,HD3.out.ev⟩)
end
section
open Go.RowKit
set_option linter.unusedVariables false
def splitL (s:List Nat) (d:Nat):List Nat:=
 let n:=s.length
 let m:=d ^^^ 1
 let k:=at' (invL s) m
 let L0:=s ++ [n,n+1]
 let L1:=if k=m then L0.set (n+1) (n+1) else (L0.set k (n+1)).set (n+1) (at' L0 m)
 (L1.set n m).set m n
theorem DraftAt.stores {R0 R:Reg} {w0 w:World} {b:Nat} {p:Value} {L:List Nat} (h:DraftAt R0 w0 R w b p L) {n:Nat} (hn:L.length=n) (h0:0<n):
  ∃ g cap,w.cell? ⟨b,0,none⟩=some p∧w.cell? ⟨b,1,none⟩=some (.slice (some ⟨g,0,none⟩) n cap)∧g≠b ∧
   (∀ i,i<n→w.cell? ⟨g,i,none⟩=some (.int .i64 ((at' L i:Nat):Int))∧w.frozen? ⟨g,i,none⟩=false) ∧
   (∀ i y,i<n→DraftAt R0 w0 R (w.setCell ⟨g,i,none⟩ (.int .i64 ((y:Nat):Int))) b p (L.set i y) ∧
    (w.setCell ⟨g,i,none⟩ (.int .i64 ((y:Nat):Int))).cell? ⟨b,1,none⟩=some (.slice (some ⟨g,0,none⟩) n cap) ∧
    ∀ j,j<n→(w.setCell ⟨g,i,none⟩ (.int .i64 ((y:Nat):Int))).cell? ⟨g,j,none⟩=some (.int .i64 ((at' (L.set i y) j:Nat):Int))∧(w.setCell ⟨g,i,none⟩ (.int .i64 ((y:Nat):Int))).frozen? ⟨g,j,none⟩=false) ∧
   (∀ i y j z,i<n→j<n→DraftAt R0 w0 R ((w.setCell ⟨g,i,none⟩ (.int .i64 ((y:Nat):Int))).setCell ⟨g,j,none⟩ (.int .i64 ((z:Nat):Int))) b p ((L.set i y).set j z)):=by
 obtain⟨a,cap,h1,h2,h3⟩:=h.ex
 rw[hn] at h1 h2 h3
 obtain⟨g,rfl,_⟩:=h2.headAt (by rw[toI_length];exact hn) h0
 obtain⟨c0,c1,hf⟩:=draft_cells h1
 refine⟨g,cap,c0,c1,fun e=>h3 (by simp[Value.ownBlock,e]),fun i hi=>?_,fun i y hi=>?_,fun i y j z hi hj=>?_⟩
 ·obtain⟨g',e,_,_,k1,k2⟩:=h2.headAt (by rw[toI_length];exact hn) hi
  cases e
  rw[toI_nth] at k1
  exact⟨k1,k2⟩
 ·obtain⟨q1,q2,q3⟩:=DraftAt.put h hn h1 h2 h3 rfl hi y
  refine⟨q1,(draft_cells q2).2.1,fun j hj=>?_⟩
  obtain⟨g',e,_,_,k1,k2⟩:=q3.headAt (by rw[toI_length,List.length_set];exact hn) hj
  cases e
  rw[toI_nth] at k1
  exact⟨k1,k2⟩
 ·obtain⟨q1,q2,q3⟩:=DraftAt.put h hn h1 h2 h3 rfl hi y
  exact (DraftAt.put q1 (by rw[List.length_set];exact hn) q2 q3 h3 rfl hj z).1
set_option maxRecDepth 100000 in
set_option maxHeartbeats 2000000 in
theorem split_any (R:Reg) (w:World) (hI:Inv R w) (p:Value) (s:List Nat) (root lone:Int) (hp:MapAt R p s root lone) (d:Int):
  Calls Try.prog 29 #[p,.int .i64 d] w (WayPost R w (inR s.length d) true (splitL s d.toNat) root lone):=by
 obtain⟨hS,hok⟩:=hp.ok hI
 have hn:s.length≤131073:=hok.2.1
 have HOf:=Lib.hid (gof_one R w hI p s root lone hp d)
 have HP:=Lib.hid hp
 have HMt:=Lib.hid (fun R' w' (h:Ev R w R' w') d=>mate_any R' w' h.inv p s root lone (h.map hp) d)
 have HBk:=Lib.hid (fun R' w' (h:Ev R w R' w') d=>mback_any R' w' h.inv p s root lone (h.map hp) d)
 have HEv:=Lib.hid hok.1
 have HIv:=Lib.hid (invL_perm hS)
 have HIl:=Lib.hid (invL_length s)
 clear hI hp hS hok
 go_enter Try.func29,Try.ntmps29
 go_wp2_with fail
 refine HOf.out.mono ?_
 rintro e w1 (⟨h1,rfl,he⟩|⟨h1,b,rfl,hd⟩)
 ·have HE:=Lib.hid he
  have H1:=Lib.hid h1
  clear he h1
  go_wp2_with fail
  go_ret2
  exact Or.inl ⟨H1.out,rfl,R,HE.out⟩
 ·obtain⟨k,rfl,hk⟩:=inR_nat h1
  have HD1:=Lib.hid hd
  have H1:=Lib.hid h1
  have hmk:=xor_one_lt HEv.out hk
  have hm:=mateI_in hk
  obtain⟨m,hme⟩:∃ m,k ^^^ 1=m:=⟨_,rfl⟩
  rw[hme] at hmk hm
  have hb:=backI_in hmk
  have hkb:=HIv.out.lt (i:=m) (by rw[HIl.out];exact hmk)
  rw[HIl.out] at hkb
  obtain⟨bk,hbk⟩:∃ x,at' (invL s) m=x:=⟨_,rfl⟩
  rw[hbk] at hkb hb
  have hsp:splitL s (k:Int).toNat=((if bk=m then (s ++ [s.length,s.length+1]).set (s.length+1) (s.length+1) else ((s ++ [s.length,s.length+1]).set bk (s.length+1)).set (s.length+1) (at' (s ++ [s.length,s.length+1]) m)).set s.length m).set m s.length:=by
   simp only[splitL,Int.toNat_natCast,hme,hbk]
  have hll:(splitL s (k:Int).toNat).length=s.length+2:=by
   rw[hsp];split <;> simp
  obtain⟨L0,hL0⟩:∃ L,s ++ [s.length,s.length+1]=L:=⟨_,rfl⟩
  rw[hL0] at hsp
  have hl0:L0.length=s.length+2:=by rw[←hL0];simp
  obtain⟨n,hne⟩:∃ n,s.length=n:=⟨_,rfl⟩
  have HNe:=Lib.hid hne
  obtain⟨SP,hSP⟩:∃ L,splitL s (k:Int).toNat=L:=⟨_,rfl⟩
  rw[hSP] at hsp hll
  have HSPe:=Lib.hid hSP
  rw[hne] at hn hmk hkb hsp hll hl0 hk
  have hw1:IntKind.i64.wrap ((n:Int)+1)=((n+1:Nat):Int):=by rw[show (n:Int)+1=((n+1:Nat):Int) by omega];exact IntWalk.i64_in _ (by omega)
  obtain⟨n1,hn1⟩:∃ x,n+1=x:=⟨_,rfl⟩
  rw[hn1] at hw1 hsp
  have HN1:=Lib.hid hn1
  have HSp:=Lib.hid hsp
  have HLl:=Lib.hid hll
  have HL0:=Lib.hid hl0
  have HL0e:=Lib.hid hL0
  have HM:=Lib.hid hm
  have HB:=Lib.hid hb
  clear hd h1 HOf hme hbk hsp hll hl0 hL0 hne hSP hn1 hm hb
  go_wp2_with fail
  refine (gedge_any HD1.out (by have:=HNe.out;omega)).mono ?_
  rintro e w2 ⟨rfl,hd2⟩
  rw[HL0e.out] at hd2
  rw[HNe.out]
  have HD2:=Lib.hid hd2
  have hmt:=HMt.out _ _ hd2.ev (k:Int)
  rw[HM.out] at hmt
  have HMt2:=Lib.hid hmt
  clear hd2 hmt
  go_wp2_with fail
  refine HMt2.out.mono ?_
  rintro e w' ⟨rfl,rfl⟩
  have hbk:=HBk.out _ _ HD2.out.ev (m:Int)
  rw[HB.out] at hbk
  have HBk2:=Lib.hid hbk
  clear hbk HMt2
  go_wp2_with fail
  refine HBk2.out.mono ?_
  rintro e w3 ⟨rfl,R3,he3⟩
  have HD3:=Lib.hid (HD2.out.step he3)
  clear he3 HD2 HBk2
  by_cases hbm:bk=m
  ·subst hbm
   have hbe:((bk:Int) == (bk:Int))=true:=by simp
   have hsp:=HSp.out
   rw[if_pos rfl] at hsp
   obtain⟨g,cap,c0,c1,hgb,hc,hput,_⟩:=HD3.out.stores HL0.out (by omega)
   obtain⟨k1,f1⟩:=hc n1 (by have:=HN1.out;omega)
   obtain⟨hd4,_⟩:=hput n1 n1 (by have:=HN1.out;omega)
   have HD4:=Lib.hid hd4
   have HSp2:=Lib.hid hsp
   clear hd4 hput hc hsp
   have hn1r:(n1:Int)<((n+2:Nat):Int):=by have:=HN1.out;omega
   have hnr:(n:Int)<((n+2:Nat):Int):=by omega
   have hmr:(bk:Int)<((n+2:Nat):Int):=by omega
   go_upto_region 9 with fail
   obtain⟨w4,hw4⟩:∃ w4,w4=w3.setCell ⟨g,n1,none⟩ (.int .i64 (n1:Int)):=⟨_,rfl⟩
   rw[←hw4] at HD4 ⊢
   clear hw4 c0 c1 k1 f1 HD3
   obtain⟨g2,cap2,e0,e1,hgb2,hc2,hp2,hpp⟩:=HD4.out.stores (n:=n+2) (by simp only[List.length_set];exact HL0.out) (by omega)
   obtain⟨k3,f3⟩:=hc2 n (by omega)
   obtain⟨_,_,hj⟩:=hp2 n bk (by omega)
   obtain⟨k4,f4⟩:=hj bk (by omega)
   have HD6:=Lib.hid (hpp n bk bk n (by omega) (by omega))
   clear hc2 hp2 hpp hj
   go_region
   all_goals (go_wp2_with fail)
   have hd6:=HD6.out.drew
   rw[←HSp2.out] at hd6
   have HDn:=Lib.hid (gdone_any hd6 root lone (hd6.ev.map HP.out) (by have:=HLl.out;omega))
   clear hd6
   refine HDn.out.mono ?_
   rintro e w7 hpo
   obtain⟨q,c,rfl⟩:=hpo.two
   have HPo:=Lib.hid hpo
   clear hpo HDn
   go_wp2_with fail
   go_ret2
   exact Or.inr (Or.inr ⟨H1.out,rfl,by rw[HSPe.out];exact HPo.out⟩)
  ·have hbe:((bk:Int) == (m:Int))=false:=by simp;omega
   have hsp:=HSp.out
   rw[if_neg hbm] at hsp
   obtain⟨g,cap,c0,c1,hgb,hc,hput,hpp0⟩:=HD3.out.stores HL0.out (by omega)
   obtain⟨y,hy⟩:∃ y,at' L0 m=y:=⟨_,rfl⟩
   obtain⟨k0,f0⟩:=hc m (by omega)
   rw[hy] at k0 hsp
   obtain⟨k1,f1⟩:=hc bk (by omega)
   obtain⟨_,_,hj0⟩:=hput bk n1 (by omega)
   obtain⟨k2,f2⟩:=hj0 n1 (by have:=HN1.out;omega)
   have HD4:=Lib.hid (hpp0 bk n1 n1 y (by omega) (by have:=HN1.out;omega)).drew
   have HSp2:=Lib.hid hsp
   have hn1r:(n1:Int)<((n+2:Nat):Int):=by have:=HN1.out;omega
   have hnr:(n:Int)<((n+2:Nat):Int):=by omega
   have hmr:(m:Int)<((n+2:Nat):Int):=by omega
   have hbr:(bk:Int)<((n+2:Nat):Int):=by omega
   clear hc hput hpp0 hj0 hsp hy
   go_upto_region 8 with fail
   go_region
   go_upto_region 9 with fail
   obtain⟨w4,hw4⟩:∃ w4,w4=((w3.setCell ⟨g,bk,none⟩ (.int .i64 (n1:Int))).setCell ⟨g,n1,none⟩ (.int .i64 (y:Int))).drew:=⟨_,rfl⟩
   rw[←hw4] at HD4 ⊢
   clear hw4 c0 c1 k0 f0 k1 f1 k2 f2 HD3
   obtain⟨g2,cap2,e0,e1,hgb2,hc2,hp2,hpp⟩:=HD4.out.stores (n:=n+2) (by simp only[List.length_set];exact HL0.out) (by omega)
   obtain⟨k3,f3⟩:=hc2 n (by omega)
   obtain⟨_,_,hj⟩:=hp2 n m (by omega)
   obtain⟨k4,f4⟩:=hj m (by omega)
   have HD6:=Lib.hid (hpp n m m n (by omega) (by omega))
   clear hc2 hp2 hpp hj
   go_region
   all_goals (go_wp2_with fail)
   have hd6:=HD6.out.drew
   rw[←HSp2.out] at hd6
   have HDn:=Lib.hid (gdone_any hd6 root lone (hd6.ev.map HP.out) (by have:=HLl.out;omega))
   clear hd6
   refine HDn.out.mono ?_
   rintro e w7 hpo
   obtain⟨q,c,rfl⟩:=hpo.two
   have HPo:=Lib.hid hpo
   clear hpo HDn
   go_wp2_with fail
   go_ret2
   exact Or.inr (Or.inr ⟨H1.out,rfl,by rw[HSPe.out];exact HPo.out⟩)
set_option maxRecDepth 100000 in
set_option maxHeartbeats 2000000 in
theorem gback_any (R:Reg) (w:World) (hI:Inv R w) (p:Value) (s:List Nat) (root lone:Int) (hp:MapAt R p s root lone) (d:Int):
  Calls Try.prog 64 #[p,.int .i64 d] w (RetV R w (.int .i64 (mateI s.length (backI s d)))):=by
 have HBk:=Lib.hid (mback_any R w hI p s root lone hp d)
 have HMt:=Lib.hid (fun R' w' (h:Ev R w R' w') d=>mate_any R' w' h.inv p s root lone (h.map hp) d)
 clear hI hp
 go_enter Try.func64,Try.ntmps64
 go_wp2_with fail
 refine HBk.out.mono ?_
 rintro e w1 ⟨rfl,R1,he1⟩
 have HE1:=Lib.hid he1
 clear he1
 go_wp2_with fail
 refine (HMt.out _ _ HE1.out _).mono ?_
 rintro e w' ⟨rfl,rfl⟩
 go_wp2_with fail
 go_ret
 exact⟨rfl,R1,HE1.out⟩
set_option maxRecDepth 100000 in
set_option maxHeartbeats 2000000 in
theorem gtri_any (R:Reg) (w:World) (hI:Inv R w) (p:Value) (s:List Nat) (root lone:Int) (hp:MapAt R p s root lone) (d:Int):
  Calls Try.prog 65 #[p,.int .i64 d] w (RetV R w (.bool (decide ((orbI (phiL s) d).length=3)))):=by
 have HBd:=Lib.hid (border_any R w hI p s root lone hp d)
 obtain⟨O,hO⟩:∃ O,orbI (phiL s) d=O:=⟨_,rfl⟩
 rw[hO] at HBd ⊢
 clear hI hp hO
 go_enter Try.func65,Try.ntmps65
 go_wp2_with fail
 refine HBd.out.mono ?_
 rintro e w1 ⟨v1,rfl,he1,ho1⟩
 obtain⟨a1,c1,rfl,_⟩:=ho1.ints.open
 have HE1:=Lib.hid he1
 clear he1 ho1
 by_cases h3:O.length=3
 ·have h3b:((O.length:Int) == 3)=true:=by simp;omega
  have hd:=decide_eq_true h3
  rw[hd]
  go_wp2_with fail
  go_ret
  exact⟨by simp[h3],R,HE1.out⟩
 ·have h3b:((O.length:Int) == 3)=false:=by simp;omega
  have hd:=decide_eq_false h3
  rw[hd]
  go_wp2_with fail
  go_ret
  exact⟨by simp;omega,R,HE1.out⟩
def starGo (s ys:List Nat):Nat→List Nat
 | 0=>s
 | i+1=>
  let n:=s.length+2*i
  let L1:=behindL (starGo s ys i ++ [n,n+1]) n (at' (invL s) (at' ys i))
  if i=0 then L1 else (L1.set (n+1) (n-1)).set (s.length+1) (n+1)
theorem starGo_length (s ys:List Nat):∀ i,(starGo s ys i).length=s.length+2*i
 | 0=>rfl
 | i+1=>by
  have:=starGo_length s ys i
  unfold starGo
  dsimp only
  split
  ·rw[behindL_length];simp;omega
  ·rw[List.length_set,List.length_set,behindL_length];simp;omega
def starL (s:List Nat) (d:Nat):List Nat:=starGo s (orbitL (phiL s) d) (orbitL (phiL s) d).length
end
section
open Go.RowKit
set_option linter.unusedVariables false
def lastI (n i:Nat):Int:=if i=0 then -1 else ((n+2*i-2:Nat):Int)
set_option maxRecDepth 100000 in
set_option maxHeartbeats 3000000 in
theorem star_any (R:Reg) (w:World) (hI:Inv R w) (p:Value) (s:List Nat) (root lone:Int) (hp:MapAt R p s root lone) (d:Int):
  Calls Try.prog 30 #[p,.int .i64 d] w (WayPost R w (inR s.length d) true (starL s d.toNat) root lone):=by
 obtain⟨hS,hok⟩:=hp.ok hI
 have hn:s.length≤131073:=hok.2.1
 have HOf:=Lib.hid (gof_one R w hI p s root lone hp d)
 have HP:=Lib.hid hp
 have HMt:=Lib.hid (fun R' w' (h:Ev R w R' w') d=>mate_any R' w' h.inv p s root lone (h.map hp) d)
 have HGb:=Lib.hid (fun R' w' (h:Ev R w R' w') d=>gback_any R' w' h.inv p s root lone (h.map hp) d)
 have HBd:=Lib.hid (fun R' w' (h:Ev R w R' w') d=>border_any R' w' h.inv p s root lone (h.map hp) d)
 have HEv:=Lib.hid hok.1
 have HIv:=Lib.hid (invL_perm hS)
 have HIl:=Lib.hid (invL_length s)
 have HPh:=Lib.hid (phiL_perm hS hok.1)
 clear hI hp hS hok
 go_enter Try.func30,Try.ntmps30
 go_wp2_with fail
 refine HOf.out.mono ?_
 rintro e w1 (⟨h1,rfl,he⟩|⟨h1,b,rfl,hd⟩)
 ·have HE:=Lib.hid he
  have H1:=Lib.hid h1
  clear he h1
  go_wp2_with fail
  go_ret2
  exact Or.inl ⟨H1.out,rfl,R,HE.out⟩
 ·obtain⟨k,rfl,hk⟩:=inR_nat h1
  have HD1:=Lib.hid hd
  have H1:=Lib.hid h1
  have hbd:=HBd.out _ _ hd.ev (k:Int)
  rw[orbI_in (by rw[phiL_length];exact hk)] at hbd
  have hol:=orbitL_length (phiL s) k
  have hlt:=orbitL_lt HPh.out (i:=k) (by rw[phiL_length];exact hk)
  rw[phiL_length] at hol hlt
  have hst:starL s (k:Int).toNat=starGo s (orbitL (phiL s) k) (orbitL (phiL s) k).length:=by unfold starL;rw[Int.toNat_natCast]
  obtain⟨O,hO⟩:∃ O,orbitL (phiL s) k=O:=⟨_,rfl⟩
  rw[hO] at hbd hol hlt hst
  obtain⟨m,hm⟩:∃ m,O.length=m:=⟨_,rfl⟩
  obtain⟨n,hne⟩:∃ n,s.length=n:=⟨_,rfl⟩
  have HOm:=Lib.hid hm
  have HNe:=Lib.hid hne
  rw[hm] at hol hst
  rw[hne] at hol hlt hn hk
  have HB:=Lib.hid hbd
  have HLt:=Lib.hid hlt
  have HSt:=Lib.hid hst
  have hn0:0<n:=by omega
  obtain⟨g0,cap0,c0,c1,_⟩:=hd.stores hne (by omega)
  clear hd h1 HOf hbd hlt hst hO hm hne
  go_wp2_with fail
  refine HB.out.mono ?_
  rintro e w2 ⟨v2,rfl,he2,ho2⟩
  obtain⟨a2,cc2,rfl,_⟩:=ho2.ints.open
  rw[toI_length,HOm.out] at ho2 ⊢
  obtain⟨R2,he3,hfx,_⟩:=OwnI.fix he2 (Nat.le_refl _) ho2
  have HD2:=Lib.hid (HD1.out.step he3)
  have HFx:=Lib.hid hfx
  clear he2 he3 ho2 hfx c0 c1 HB HD1
  go_wp2_with fail
  go_loopg [8,32] m (fun g v8 v32 wr=>∃ (i:Nat) (R':Reg),i≤m∧m-i≤g∧v32=.int .i64 (i:Int)∧v8=.int .i64 (lastI n i)∧DraftAt R w R' wr b p (starGo s O i)∧FixI R' (.slice a2 m cc2) (toI O))
  case atStart=>exact⟨0,R2,Nat.zero_le _,by omega,rfl,rfl,HD2.out,HFx.out⟩
  case round=>
   obtain⟨i,R',him,hg,rfl,rfl,hdr,hfx⟩:=hrel
   have HDr:=Lib.hid hdr
   have HFr:=Lib.hid hfx
   clear hfx HFx HD2
   have hlen:=starGo_length s O i
   rw[HNe.out] at hlen
   by_cases hi:i<m
   ·obtain⟨bS,oS,rfl,hc⟩:=FixI.cell hdr.ev.inv HFr.out (i:=i) (by rw[HOm.out];exact hi)
    have hy:at' O i<n:=HLt.out _ (by rw[at'_eq (by rw[HOm.out];exact hi)];exact List.getElem_mem _)
    obtain⟨y,hye⟩:∃ y,at' O i=y:=⟨_,rfl⟩
    rw[hye] at hc hy
    have hbk:=HIv.out.lt (i:=y) (by rw[HIl.out,HNe.out];exact hy)
    rw[HIl.out,HNe.out] at hbk
    have hbi:=backI_in (s:=s) (i:=y) (by rw[HNe.out];exact hy)
    have hstep:starGo s O (i+1)=if i=0 then behindL (starGo s O i ++ [n+2*i,n+2*i+1]) (n+2*i) (at' (invL s) y) else ((behindL (starGo s O i ++ [n+2*i,n+2*i+1]) (n+2*i) (at' (invL s) y)).set (n+2*i+1) (n+2*i-1)).set (n+1) (n+2*i+1):=by
     simp only[starGo,HNe.out,hye]
    obtain⟨bk,hbke⟩:∃ x,at' (invL s) y=x:=⟨_,rfl⟩
    rw[hbke] at hbk hbi hstep
    have hbm:=xor_one_lt (n:=n) (by rw[←HNe.out];exact HEv.out) hbk
    have hma:=mateI_in (n:=n) hbk
    have hmb:=mateI_in (n:=n) hbm
    rw[xor_one_one] at hmb
    obtain⟨bm,hbme⟩:∃ x,bk ^^^ 1=x:=⟨_,rfl⟩
    rw[hbme] at hma hmb hbm
    obtain⟨N,hN⟩:∃ N,n+2*i=N:=⟨_,rfl⟩
    rw[hN] at hstep hlen
    obtain⟨LL,hLL⟩:∃ L,starGo s O i=L:=⟨_,rfl⟩
    rw[hLL] at hdr hlen hstep
    have hi':(i:Int)<(m:Int):=by omega
    have hNl:N≤400000:=by omega
    have hnN:n≤N:=by omega
    have hcl0:¬ ((i:Int)<0):=by omega
    have hed:=gedge_any hdr (by omega)
    rw[hlen] at hed
    have HEd:=Lib.hid hed
    have hGb:=fun R' w' (h:Ev R w R' w')=>HGb.out R' w' h (y:Int)
    rw[hbi,HNe.out,hma] at hGb
    have HGb2:=Lib.hid hGb
    have hMt:=fun R' w' (h:Ev R w R' w')=>HMt.out R' w' h (bm:Int)
    rw[HNe.out,hmb] at hMt
    have HMt2:=Lib.hid hMt
    have hl1:(LL ++ [N,N+1]).length=N+2:=by simp[hlen]
    have HL1:=Lib.hid hl1
    have HStep:=Lib.hid hstep
    have HN:=Lib.hid hN
    clear hdr hed hGb hMt hl1 hstep hbi hma hmb hbke hbme hye hLL hlen HDr hN
    go_wp2_with fail
    refine HEd.out.mono ?_
    rintro e w3 ⟨rfl,hd3⟩
    have HD3:=Lib.hid hd3
    have HG3:=Lib.hid (HGb2.out _ _ hd3.ev)
    clear hd3 HEd
    go_wp2_with fail
    refine HG3.out.mono ?_
    rintro e w4 ⟨rfl,R4,he4⟩
    have HD4:=Lib.hid (HD3.out.step he4)
    have HF4:=Lib.hid (FixI.mono he4.reg HFr.out)
    clear he4 HD3 HG3 HFr
    go_wp2_with fail
    refine (HMt2.out _ _ HD4.out.ev).mono ?_
    rintro e w' ⟨rfl,rfl⟩
    have HBh:=Lib.hid (gbehind_any HD4.out (d:=N) (t:=bk) (by rw[HL1.out];omega) (by rw[HL1.out];omega) (by rw[HL1.out];omega))
    go_wp2_with fail
    refine HBh.out.mono ?_
    rintro e w5 ⟨rfl,hd5⟩
    have HD5:=Lib.hid hd5
    clear hd5 HBh HD4 HGb2 HMt2
    by_cases hi0:i=0
    ·subst hi0
     have hst:=HStep.out
     rw[if_pos rfl] at hst
     have HSt2:=Lib.hid hst
     have hla:lastI n 0=-1:=rfl
     have hlb:lastI n (0+1)=(N:Int):=by have:=HN.out;unfold lastI;rw[if_neg (by omega)];omega
     have HLb:=Lib.hid hlb
     rw[hla]
     clear hst hla hlb HStep
     go_wp2_with fail
     go_roundg (m-(0+1))
     case measure=>omega
     case rel=>exact⟨0+1,R4,by omega,by omega,by go_num,by rw[HLb.out],by rw[HSt2.out];exact HD5.out,HF4.out⟩
    ·have hst:=HStep.out
     rw[if_neg hi0] at hst
     have HSt2:=Lib.hid hst
     obtain⟨P,hP⟩:∃ P,N-1=P:=⟨_,rfl⟩
     obtain⟨P0,hP0⟩:∃ P,n+2*i-2=P:=⟨_,rfl⟩
     have hla:lastI n i=(P0:Int):=by unfold lastI;rw[if_neg hi0,hP0]
     have hlb:lastI n (i+1)=(N:Int):=by have:=HN.out;unfold lastI;rw[if_neg (by omega)];omega
     have HLb:=Lib.hid hlb
     have hNN:=HN.out
     have hw1:IntKind.i64.wrap ((N:Int)+1)=((N+1:Nat):Int):=by rw[show (N:Int)+1=((N+1:Nat):Int) by omega];exact IntWalk.i64_in _ (by omega)
     have hw2:IntKind.i64.wrap ((n:Int)+1)=((n+1:Nat):Int):=by rw[show (n:Int)+1=((n+1:Nat):Int) by omega];exact IntWalk.i64_in _ (by omega)
     have hw3:IntKind.i64.wrap ((P0:Int)+1)=(P:Int):=by rw[show (P0:Int)+1=(P:Int) by omega];exact IntWalk.i64_in _ (by omega)
     obtain⟨N1,hN1⟩:∃ x,N+1=x:=⟨_,rfl⟩
     obtain⟨n1,hn1⟩:∃ x,n+1=x:=⟨_,rfl⟩
     rw[hN1] at hw1 hst
     rw[hn1] at hw2 hst
     rw[hP] at hst
     have HSt2:=Lib.hid hst
     obtain⟨g,cap,c0,c1,hgb,hcc,hput,hpp0⟩:=HD5.out.stores (n:=N+2) (by rw[behindL_length];exact HL1.out) (by omega)
     have hr1:(N1:Int)<((N+2:Nat):Int):=by omega
     have hr2:(n1:Int)<((N+2:Nat):Int):=by omega
     obtain⟨k1,f1⟩:=hcc N1 (by omega)
     obtain⟨_,_,hj0⟩:=hput N1 P (by omega)
     obtain⟨k2,f2⟩:=hj0 n1 (by omega)
     have HD6:=Lib.hid (hpp0 N1 P n1 N1 (by omega) (by omega)).drew
     have hp0:¬ ((P0:Int)<0):=by omega
     have HN1:=Lib.hid hN1
     rw[hla]
     clear hst hla hlb HStep hcc hput hpp0 hj0 hNN hP hP0 hN1 hn1
     go_wp2_with fail
     go_region
     go_wp2_with fail
     go_roundg (m-(i+1))
     case measure=>omega
     case rel=>exact⟨i+1,R4,by omega,by omega,by go_num,by rw[HLb.out],by rw[HSt2.out];have h:=HD6.out;rw[HN1.out] at h;exact h,HF4.out⟩
   ·obtain rfl:i=m:=by omega
    have hst:=HSt.out
    have HDn:=Lib.hid (gdone_any hdr root lone (hdr.ev.map HP.out) (by omega))
    clear hdr HDr hlen
    go_wp2_with fail
    refine HDn.out.mono ?_
    rintro e w7 hpo
    obtain⟨q,c,rfl⟩:=hpo.two
    have HPo:=Lib.hid hpo
    clear hpo HDn
    go_wp2_with fail
    go_ret2
    exact Or.inr (Or.inr ⟨H1.out,rfl,by rw[HSt.out];exact HPo.out⟩)
end
end Go.Proofs.Ytklkgicjfnbndaa
