/- parquetryref12.Decode: rows of darts and a stack, letter by letter; behind the last letter the rows tell a turn. -/
import Derived.Test.YtklkgicjfnbndaaZGrowPlays32
import Derived.Test.YtklkgicjfnbndaaZGrowPlays34
import Derived.Test.YtklkgicjfnbndaaZGrowPlays33
import Derived.Test.YtklkgicjfnbndaaZGrowPlays29
import Derived.Test.YtklkgicjfnbndaaZGrowPlays14
import Derived.Test.YtklkgicjfnbndaaZGrowPlays35
namespace Go.Proofs.Ytklkgicjfnbndaa
section
set_option linter.unusedVariables false
def topL (S:List Nat):Nat:=at' S (S.length-1)
def decP (L:List Int) (N:List Nat):Nat→List Nat × List (List Nat)
 | 0=>([0],[[]])
 | i+1=>
  let q:=decP L N i
  let X:=q.2.set (topL q.1) (q.2.getD (topL q.1) [] ++ [at' N i])
  if nth L i=0 then (q.1 ++ [X.length],X ++ [[]]) else if nth L i=1 then (q.1.take (q.1.length-1),X) else (q.1,X)
theorem decP_succ (L:List Int) (N:List Nat) (i:Nat):decP L N (i+1)=(let q:=decP L N i
  let X:=q.2.set (topL q.1) (q.2.getD (topL q.1) [] ++ [at' N i])
  if nth L i=0 then (q.1 ++ [X.length],X ++ [[]]) else if nth L i=1 then (q.1.take (q.1.length-1),X) else (q.1,X)):=rfl
theorem set_flat (d:Nat):∀ (X:List (List Nat)) (v:Nat),v<X.length→(X.set v (X.getD v [] ++ [d])).flatten.Perm (d :: X.flatten)
 | [],v,h=>by simp at h
 | x :: X,0,_=>by
  simp only[List.set_cons_zero,List.getD_cons_zero,List.flatten_cons,List.append_assoc]
  exact List.perm_middle
 | x :: X,v+1,h=>by
  simp only[List.set_cons_succ,List.getD_cons_succ,List.flatten_cons]
  have:=set_flat d X v (by simpa using h)
  exact (List.Perm.append_left x this).trans List.perm_middle
structure DecI (N:List Nat) (i h:Nat) (q:List Nat × List (List Nat)):Prop where
 len:q.1.length=1+h
 rows:q.2.length≤i+1
 st:∀ x,x∈q.1→x<q.2.length
 perm:q.2.flatten.Perm (N.take i)
theorem topL_mem {S:List Nat} (h:0<S.length):topL S∈S:=by
 unfold topL
 rw[at'_eq (by omega)]
 exact List.getElem_mem _
theorem decP_inv {p:Nat} {bs:List Nat} {N:List Nat} (hN:N.length=2*p):∀ i,i≤2*p→DecI N i (anyS p bs i).2.1 (decP (anyW p bs) N i)
 | 0,_=>⟨rfl,Nat.le_refl _,fun x hx=>by
   have:x=0:=by simpa [decP] using hx
   subst this;exact Nat.succ_pos _,by show List.Perm [] _;simp⟩
 | i+1,hi=>by
  have ih:=decP_inv (bs:=bs) hN i (by omega)
  have hst:=(anyK_step p bs i).2
  have hL:nth (anyW p bs) i=anyK p bs i:=anyW_nth (by omega)
  rw[decP_succ]
  dsimp only
  rw[hL]
  obtain⟨q,hq⟩:∃ q,decP (anyW p bs) N i=q:=⟨_,rfl⟩
  rw[hq] at ih ⊢
  obtain⟨i1,i2,i3,i4⟩:=ih
  have htop:topL q.1<q.2.length:=i3 _ (topL_mem (by omega))
  have hXl:(q.2.set (topL q.1) (q.2.getD (topL q.1) [] ++ [at' N i])).length=q.2.length:=List.length_set
  have hXp:(q.2.set (topL q.1) (q.2.getD (topL q.1) [] ++ [at' N i])).flatten.Perm (N.take (i+1)):=by
   refine (set_flat (at' N i) q.2 _ htop).trans ?_
   rw[List.take_succ_eq_append_getElem (by omega),at'_eq (by omega)]
   exact (List.Perm.cons _ i4).trans (List.perm_append_singleton _ _).symm
  obtain⟨X,hX⟩:∃ X,q.2.set (topL q.1) (q.2.getD (topL q.1) [] ++ [at' N i])=X:=⟨_,rfl⟩
  rw[hX] at hXl hXp ⊢
  rcases hst with ⟨k,e⟩|⟨k,e⟩|⟨k,h0,e⟩|⟨k,h0,e⟩
  ·rw[k,if_pos rfl,e]
   refine⟨by simp[i1];omega,by simp;omega,fun x hx=>?_,by simpa using hXp⟩
   rw[List.length_append,List.length_singleton]
   rcases List.mem_append.1 hx with hx|hx
   ·have:=i3 x hx;omega
   ·rw[List.mem_singleton.1 hx];omega
  ·rw[k,if_neg (by decide),if_neg (by decide),e]
   exact⟨i1,by show X.length≤_;omega,fun x hx=>by show x<X.length;rw[hXl];exact i3 x hx,hXp⟩
  ·rw[k,if_neg (by decide),if_pos rfl,e]
   refine⟨by show (q.1.take (q.1.length-1)).length=_;rw[List.length_take];omega,by show X.length≤_;omega,fun x hx=>?_,hXp⟩
   show x<X.length
   rw[hXl]
   exact i3 x (List.mem_of_mem_take hx)
  ·rw[k,if_neg (by decide),if_neg (by decide),e]
   exact⟨i1,by show X.length≤_;omega,fun x hx=>by show x<X.length;rw[hXl];exact i3 x hx,hXp⟩
theorem lay_perm {X:List (List Nat)} {N:List Nat} (hN:IsPerm N) (hp:X.flatten.Perm N):RowsOf X (layA X (List.replicate N.length 0))∧(layA X (List.replicate N.length 0)).length=N.length:=by
 have hl:(layA X (List.replicate N.length 0)).length=N.length:=by rw[layA_length,List.length_replicate]
 have hnd:X.flatten.Nodup:=hp.nodup_iff.2 hN.1
 have hmem:∀ y,y∈X.flatten↔y<N.length:=fun y=>by
  rw[hp.mem_iff]
  constructor
  ·exact hN.2 y
  ·intro hy
   obtain⟨e,hk⟩:=at_invL hN hy
   rw[←e,at'_eq hk]
   exact List.getElem_mem _
 obtain⟨h1,_⟩:=layA_at X (List.replicate N.length 0) hnd (fun x hx=>by rw[List.length_replicate];exact (hmem x).1 hx)
 exact⟨⟨hnd,fun y=>by rw[hl];exact hmem y,h1⟩,hl⟩
theorem decP_turn {p:Nat} {bs:List Nat} {N:List Nat} (hN:IsPerm N) (hl:N.length=2*p):
  IsPerm (layA (decP (anyW p bs) N (2*p)).2 (List.replicate (2*p) 0))∧(layA (decP (anyW p bs) N (2*p)).2 (List.replicate (2*p) 0)).length=2*p∧RowsOf (decP (anyW p bs) N (2*p)).2 (layA (decP (anyW p bs) N (2*p)).2 (List.replicate (2*p) 0)):=by
 have h:=(decP_inv (bs:=bs) hl (2*p) (Nat.le_refl _)).perm
 rw[List.take_of_length_le (by omega)] at h
 have h2:=lay_perm hN h
 rw[hl] at h2
 exact⟨h2.1.isPerm,h2.2,h2.1⟩
end
section
open Go.RowKit
set_option linter.unusedVariables false
theorem nodup_len {v:List Nat} (hn:v.Nodup) {N:Nat} (h:∀ x,x∈v→x<N):v.length≤N:=by
 by_cases hl:v.length≤N
 ·exact hl
 ·obtain⟨a,b,hab,hb,e⟩:=pigeon N (fun k=>at' v k) (fun k hk=>h _ (by rw[at'_eq (by omega)];exact List.getElem_mem _))
  simp only[at'_eq (show a<v.length by omega),at'_eq (show b<v.length by omega)] at e
  have:=nodup_inj hn (by omega) (by omega) e
  omega
theorem outL_length (f:Nat→List Nat) (xss:List (List Nat)):(outL f xss).length=xss.length:=by unfold outL;rw[List.length_map]
theorem RowsF.sm {xss:List (List Nat)} {D:Nat→Prop} {f:Nat→Nat} (h:RowsF xss D f) {N:Nat} (hD:∀ y,D y→y<N) (hN:N≤100000) (hl:xss.length≤100000):RowsSm xss:=by
 refine⟨hl,fun i hi=>?_⟩
 have hm:xss.getD i []∈xss:=by simp[List.getD,hi]
 have hlt:∀ x,x∈xss.getD i []→x<N:=fun x hx=>hD x ((h.mem x).1 (List.mem_flatten.2 ⟨_,hm,hx⟩))
 exact⟨Nat.le_trans (nodup_len (h.rowNd hm) hlt) hN,fun x hx=>by have:=hlt x hx;omega⟩
theorem RowsOf.sm {xss:List (List Nat)} {T:List Nat} (h:RowsOf xss T) (hN:T.length≤100000) (hl:xss.length≤100000):RowsSm xss:=
 RowsF.sm (xss:=xss) (D:=(· < T.length)) (f:=at' T) ⟨h.nd,h.mem,fun v hv=>h.next v hv⟩ (fun y hy=>hy) hN hl
theorem RowsOf.below {xss:List (List Nat)} {T:List Nat} (h:RowsOf xss T):∀ i,i<xss.length→∀ x,x∈xss.getD i []→x<T.length:=fun i hi x hx=>
 (h.mem x).1 (List.mem_flatten.2 ⟨xss.getD i [],by simp[List.getD,hi],hx⟩)
theorem lists_sm {s:List Nat} (hs:IsPerm s) (hn:s.length≤100000):RowsSm (listsL s s.length):=(lists_rows hs).sm hn (Nat.le_trans (listsL_len s _) hn)
theorem OwnI.lit1 {R:Reg} {W:World} {B:Nat} (hI:Inv R W) (hB:B≤W.heap.size) (y:Int):OwnI R B 3 (W.alloc (.cells #[.int .i64 y] 3)) (.slice (some ⟨W.heap.size,0,none⟩) 1 1) [y]:=by
 have h:=World.ownsRow_lit (base:=B) (e:=3) (size:=1) W #[.int .i64 y] 1 hB (by simp[maxLen]) rfl
 refine⟨by simpa using h,fun k hk=>?_⟩
 simp only[Value.ownBlock,Option.some.injEq] at hk
 rw[←hk]
 exact hI.none_of_ge (Nat.le_refl _)
theorem OwnI.lit2 {R:Reg} {W:World} {B:Nat} (hI:Inv R W) (hB:B≤W.heap.size) (x y:Int):OwnI R B 3 (W.alloc (.cells #[.int .i64 x,.int .i64 y] 3)) (.slice (some ⟨W.heap.size,0,none⟩) 2 2) [x,y]:=by
 have h:=World.ownsRow_lit (base:=B) (e:=3) (size:=1) W #[.int .i64 x,.int .i64 y] 2 hB (by simp[maxLen]) rfl
 refine⟨by simpa using h,fun k hk=>?_⟩
 simp only[Value.ownBlock,Option.some.injEq] at hk
 rw[←hk]
 exact hI.none_of_ge (Nat.le_refl _)
theorem rowOk_lit1 {R:Reg} {w:World} {B n:Nat} {v:Value} {vs:List Value} (hI:Inv R w) {y:Int} {x:Nat} (hy:y=(x:Int)) (hO:OwnV R B 25 1 w v n vs):RowOk R (w.alloc (.cells #[.int .i64 y] 3)) (fun k=>v.ownBlock=some k) (.slice (some ⟨w.heap.size,0,none⟩) 1 1) [x]:=by
 subst hy
 exact rowOk_new (N:=1) (F:=[x]) (OwnI.lit1 hI (Nat.le_refl _) (x:Int)) rfl hO
theorem rowOk_lit2 {R:Reg} {w:World} {B n:Nat} {v:Value} {vs:List Value} (hI:Inv R w) {x' y':Int} {x y:Nat} (hx:x'=(x:Int)) (hy:y'=(y:Int)) (hO:OwnV R B 25 1 w v n vs):RowOk R (w.alloc (.cells #[.int .i64 x',.int .i64 y'] 3)) (fun k=>v.ownBlock=some k) (.slice (some ⟨w.heap.size,0,none⟩) 2 2) [x,y]:=by
 subst hx hy
 exact rowOk_new (N:=2) (F:=[x,y]) (OwnI.lit2 hI (Nat.le_refl _) (x:Int) (y:Int)) rfl hO
theorem one_cell_next (w:World) (L:Obj) (u:Value):∀ j x,[u][j]?=some x→((w.alloc L).alloc (.cells #[u] 25)).cell? ((⟨w.heap.size+1,0,none⟩:Addr).add j)=some x:=by
 have h:=one_cell (w.alloc L) u
 rw[World.size_alloc] at h
 exact h
theorem RowsAt.mono {R:Reg} {B B':Nat} {w:World} {v:Value} {xss:List (List Nat)} (h:RowsAt R B w v xss) (hB:B'≤B):RowsAt R B' w v xss:=by
 obtain⟨a,c,vs,e,h1,h2⟩:=h
 exact⟨a,c,vs,e,h1.mono hB,h2⟩
theorem starLs_len (s O:List Nat):∀ i,(starLs s O i).length=(listsL s s.length).length
 | 0=>rfl
 | i+1=>by unfold starLs;rw[outL_length];exact starLs_len s O i
theorem RowOk.nil (R:Reg) (w:World) (X:Nat→Prop):RowOk R w X (.slice none 0 0) []:=
 ⟨none,0,rfl,(OwnI.nil R w.heap.size 3 w).free,fun k hk=>by simp[Value.ownBlock] at hk⟩
section
variable {a : Act} {ops : Array Oper} {Q : Exit → Act → World → Prop} {o : Oper} {rest : List Oper}
theorem wpList_app_none {w:World} (hgd:o.guard=none) (s x:Operand)
  (ho:o.op=.call { callee:=.builtin .append,args:=#[s,x],argTypes:=#[25,25] })
  {a1:Option Addr} {n c:Nat} {a2:Option Addr} {c2:Nat} (hs:a.eval s=.slice a1 n c) (hx:a.eval x=.slice a2 0 c2) (hc:n≤c)
  (h:wpList Try.prog ops Q rest (a.put o.dst (.slice a1 n c)) w):wpList Try.prog ops Q (o :: rest) a w:=by
 have hr:=run_app_nil o.type w a1 n c a2 c2 hc
 refine wpList_plain hgd fun K hK=>?_
 unfold Oper.wp execOp
 simp only[ho,resolve,invoke,builtin,Sem.run_bind,Sem.run_pure,Result.andThen_ok,List.map_toArray,List.map_cons,List.map_nil,hs,hx,hr]
 exact hK _ _ h
end
def RetDo (R:Reg) (w:World) (L:List Nat) (root lone:Int) (z:Ending) (w':World):Prop:=
 ∃ a c,z=.returned (.tuple #[refV (.slice a L.length c) root lone,.int .i64 0])∧Ev R w R w'∧OwnI R w.heap.size 3 w' (.slice a L.length c) (toI L)
end
section
open Go.RowKit
set_option linter.unusedVariables false
theorem leaf_nil (w:World) (d:Int):Calls Try.prog 22 #[.pointer none,.int .i64 d] w fun e w'=>e=.returned (.tuple #[.pointer none,.int .i64 2])∧∀ R,Inv R w→Ev R w R w':=by
 have H:=Lib.hid (fun w' v=>gof_nil w' v)
 go_enter Try.func22,Try.ntmps22
 go_wp2_with fail
 refine (H.out _ _).mono ?_
 rintro e w' ⟨rfl,rfl⟩
 go_wp2_with fail
 go_ret2
 exact⟨rfl,fun R h=>(Ev.refl h).alloc _⟩
theorem split_nil (w:World) (d:Int):Calls Try.prog 29 #[.pointer none,.int .i64 d] w fun e w'=>e=.returned (.tuple #[.pointer none,.int .i64 2])∧∀ R,Inv R w→Ev R w R w':=by
 have H:=Lib.hid (fun w' v=>gof_nil w' v)
 go_enter Try.func29,Try.ntmps29
 go_wp2_with fail
 refine (H.out _ _).mono ?_
 rintro e w' ⟨rfl,rfl⟩
 go_wp2_with fail
 go_ret2
 exact⟨rfl,fun R h=>(Ev.refl h).alloc _⟩
theorem star_nil (w:World) (d:Int):Calls Try.prog 30 #[.pointer none,.int .i64 d] w fun e w'=>e=.returned (.tuple #[.pointer none,.int .i64 2])∧∀ R,Inv R w→Ev R w R w':=by
 have H:=Lib.hid (fun w' v=>gof_nil w' v)
 go_enter Try.func30,Try.ntmps30
 go_wp2_with fail
 refine (H.out _ _).mono ?_
 rintro e w' ⟨rfl,rfl⟩
 go_wp2_with fail
 go_ret2
 exact⟨rfl,fun R h=>(Ev.refl h).alloc _⟩
theorem flip_nil (w:World) (d:Int):Calls Try.prog 31 #[.pointer none,.int .i64 d] w fun e w'=>e=.returned (.tuple #[.pointer none,.int .i64 2])∧∀ R,Inv R w→Ev R w R w':=by
 have H:=Lib.hid (fun w' v=>gof_nil w' v)
 go_enter Try.func31,Try.ntmps31
 go_wp2_with fail
 refine (H.out _ _).mono ?_
 rintro e w' ⟨rfl,rfl⟩
 go_wp2_with fail
 go_ret2
 exact⟨rfl,fun R h=>(Ev.refl h).alloc _⟩
theorem chord_nil (w:World) (d d':Int):Calls Try.prog 28 #[.pointer none,.int .i64 d,.int .i64 d'] w fun e w'=>e=.returned (.tuple #[.pointer none,.int .i64 2])∧∀ R,Inv R w→Ev R w R w':=by
 have H:=Lib.hid (fun w' v=>gof_nil w' v)
 go_enter Try.func28,Try.ntmps28
 go_wp2_with fail
 refine (H.out _ _).mono ?_
 rintro e w' ⟨rfl,rfl⟩
 go_wp2_with fail
 go_ret2
 exact⟨rfl,fun R h=>(Ev.refl h).alloc _⟩
def wayR (n way:Nat) (d e:Int):Bool:=match way with|1=>inR n d && inR n e|_=>inR n d
noncomputable def wayB (s:List Nat) (way:Nat) (d e:Int):Bool:=match way with|1=>decide (nameI (phiL s) (atI s d)=nameI (phiL s) (atI s e))|4=>flipB s d.toNat|_=>true
def wayL (s:List Nat) (way:Nat) (d e:Int):List Nat:=match way with|0=>leafL s d.toNat|1=>chordL s d.toNat e.toNat|2=>splitL s d.toNat|3=>starL s d.toNat|_=>flipL s d.toNat
theorem WayPost.two {R:Reg} {w w':World} {a b:Bool} {L:List Nat} {root lone:Int} {e:Ending} (k:WayPost R w a b L root lone e w'):∃ q c,e=.returned (.tuple #[q,.int .i64 c]):=by
 rcases k with ⟨_,h,_⟩|⟨_,_,h,_⟩|⟨_,_,h⟩
 ·exact⟨_,_,h⟩
 ·exact⟨_,_,h⟩
 ·exact h.two
theorem do_nil (w:World) (way:Nat) (hw:way<5) (d d':Int):Calls Try.prog 7 #[.pointer none,.int .i64 (way:Int),.int .i64 d,.int .i64 d'] w fun e w'=>e=.returned (.tuple #[.pointer none,.int .i64 2])∧∀ R,Inv R w→Ev R w R w':=by
 have H0:=Lib.hid (fun w'=>leaf_nil w' d)
 have H1:=Lib.hid (fun w'=>chord_nil w' d d')
 have H2:=Lib.hid (fun w'=>split_nil w' d)
 have H3:=Lib.hid (fun w'=>star_nil w' d)
 have H4:=Lib.hid (fun w'=>flip_nil w' d)
 have hc:way=0∨way=1∨way=2∨way=3∨way=4:=by omega
 go_enter Try.func7,Try.ntmps7
 rcases hc with rfl|rfl|rfl|rfl|rfl
 ·go_wp2_with fail
  refine (H0.out _).mono ?_
  rintro e w' ⟨rfl,he⟩
  go_wp2_with fail
  go_ret2
  exact⟨rfl,he⟩
 ·go_wp2_with fail
  refine (H1.out _).mono ?_
  rintro e w' ⟨rfl,he⟩
  go_wp2_with fail
  go_ret2
  exact⟨rfl,he⟩
 ·go_wp2_with fail
  refine (H2.out _).mono ?_
  rintro e w' ⟨rfl,he⟩
  go_wp2_with fail
  go_ret2
  exact⟨rfl,he⟩
 ·go_wp2_with fail
  refine (H3.out _).mono ?_
  rintro e w' ⟨rfl,he⟩
  go_wp2_with fail
  go_ret2
  exact⟨rfl,he⟩
 ·go_wp2_with fail
  refine (H4.out _).mono ?_
  rintro e w' ⟨rfl,he⟩
  go_wp2_with fail
  go_ret2
  exact⟨rfl,he⟩
theorem do_any (R:Reg) (w:World) (hI:Inv R w) (p:Value) (s:List Nat) (root lone:Int) (hp:MapAt R p s root lone) (way:Nat) (hw:way<5) (d d':Int):
  Calls Try.prog 7 #[p,.int .i64 (way:Int),.int .i64 d,.int .i64 d'] w (WayPost R w (wayR s.length way d d') (wayB s way d d') (wayL s way d d') root lone):=by
 have H0:=Lib.hid (leaf_any R w hI p s root lone hp d)
 have H1:=Lib.hid (chord_any R w hI p s root lone hp d d')
 have H2:=Lib.hid (split_any R w hI p s root lone hp d)
 have H3:=Lib.hid (star_any R w hI p s root lone hp d)
 have H4:=Lib.hid (flip_any R w hI p s root lone hp d)
 have hc:way=0∨way=1∨way=2∨way=3∨way=4:=by omega
 clear hI hp
 go_enter Try.func7,Try.ntmps7
 rcases hc with rfl|rfl|rfl|rfl|rfl
 ·go_wp2_with fail
  refine H0.out.mono ?_
  rintro e w' hpo
  obtain⟨q,c,rfl⟩:=hpo.two
  have HPo:=Lib.hid hpo
  clear hpo
  go_wp2_with fail
  go_ret2
  exact HPo.out
 ·go_wp2_with fail
  refine H1.out.mono ?_
  rintro e w' hpo
  obtain⟨q,c,rfl⟩:=hpo.two
  have HPo:=Lib.hid hpo
  clear hpo
  go_wp2_with fail
  go_ret2
  exact HPo.out
 ·go_wp2_with fail
  refine H2.out.mono ?_
  rintro e w' hpo
  obtain⟨q,c,rfl⟩:=hpo.two
  have HPo:=Lib.hid hpo
  clear hpo
  go_wp2_with fail
  go_ret2
  exact HPo.out
 ·go_wp2_with fail
  refine H3.out.mono ?_
  rintro e w' hpo
  obtain⟨q,c,rfl⟩:=hpo.two
  have HPo:=Lib.hid hpo
  clear hpo
  go_wp2_with fail
  go_ret2
  exact HPo.out
 ·go_wp2_with fail
  refine H4.out.mono ?_
  rintro e w' hpo
  obtain⟨q,c,rfl⟩:=hpo.two
  have HPo:=Lib.hid hpo
  clear hpo
  go_wp2_with fail
  go_ret2
  exact HPo.out
theorem ok01:MapOk [0,1] 0 0:=by unfold MapOk;simp
theorem seed_any (R:Reg) (w:World) (hI:Inv R w):Calls Try.prog 23 #[] w fun e w'=>∃ p R',e=.returned p∧Ev R w R' w'∧MapAt R' p [0,1] 0 0:=by
 have H1:=Lib.hid (new_yes R _ (hI.alloc _) _ [0,1] (FreeI.two hI 0 1) 0 0 perm01 ok01)
 have HE:=Lib.hid ((Ev.refl hI).alloc (.cells #[.int .i64 0,.int .i64 1] 3))
 clear hI
 go_enter Try.func23,Try.ntmps23
 go_wp2_with fail
 refine H1.out.mono ?_
 rintro e w2 ⟨p,R2,rfl,he2,hp⟩
 have HE2:=Lib.hid (HE.out.trans he2)
 have HP:=Lib.hid hp
 clear he2 hp
 go_wp2_with fail
 go_ret
 exact⟨p,R2,rfl,HE2.out,HP.out⟩
theorem leaf01:leafL [0,1] 0=[2,1,0,3]:=by decide
theorem perm2103:IsPerm [2,1,0,3]:=⟨by decide,by decide⟩
theorem sizes2103:(sizesL [2,1,0,3]).length=3:=by decide +kernel
set_option maxRecDepth 100000 in
set_option maxHeartbeats 1000000 in
theorem awake23_any (R:Reg) (w:World) (hI:Inv R w):Calls Try.prog 5 #[] w (RetTrue R w):=by
 have HSd:=Lib.hid (seed_any R w hI)
 clear hI
 go_enter Try.func5,Try.ntmps5
 go_wp2_with fail
 refine HSd.out.mono ?_
 rintro e w1 ⟨p,R1,rfl,he1,hp1⟩
 have HE1:=Lib.hid he1
 have HL:=Lib.hid (leaf_any R1 w1 he1.inv p [0,1] 0 0 hp1 0)
 clear he1 hp1
 go_wp2_with fail
 refine HL.out.mono ?_
 rintro e w2 (⟨h,_⟩|⟨_,h,_⟩|⟨_,_,hk⟩)
 ·exact absurd h (by decide)
 ·cases h
 ·have hk2:NewPost R1 w1 (toI [2,1,0,3]) 0 0 e w2:=by
   have e1:leafL [0,1] (0:Int).toNat=[2,1,0,3]:=leaf01
   rw[←e1];exact hk
  rcases hk2 with ⟨h,_⟩|⟨_,S,q,R2,_,hS,_,rfl,he2,hq⟩
  ·exact absurd (newErr_ok perm2103 (by unfold MapOk;simp)) h
  ·have:=toI_inj hS
   subst this
   have HE2:=Lib.hid (HE1.out.trans he2)
   have HEd:=Lib.hid (edges_any R2 w2 he2.inv q _ 0 0 hq)
   have hv:=vertices_any R2 w2 he2.inv q _ 0 0 hq
   rw[sizes2103] at hv
   have HV:=Lib.hid hv
   clear hk hS he2 hq hv HL HSd
   go_wp2_with fail
   refine HEd.out.mono ?_
   rintro e w' ⟨rfl,rfl⟩
   go_wp2_with fail
   refine HV.out.mono ?_
   rintro e w3 ⟨rfl,R3,he3⟩
   have HE3:=Lib.hid (HE2.out.trans he3)
   clear he3
   go_wp2_with fail
   go_ret
   exact⟨by first|rfl|simp,R3,HE3.out⟩
end
section
set_option linter.unusedVariables false
theorem starL_grown {s:List Nat} (hs:IsPerm s) (hes:s.length % 2=0) {d:Nat} (hd:d<s.length):GrownL s (starL s d) 1 ((orbitL (phiL s) d).length-1)∧(orbitL (phiL s) d).length≤s.length:=by
 obtain⟨k1,k2,k3,_⟩:=star_face hs hes hd rfl
 have h:=star_grown hs hes hd rfl
 unfold starL
 rw[starGo_eq hs k1 k2 _ (Nat.le_refl _),stG_all k3]
 refine⟨h,?_⟩
 have:=List.Nodup.length_le_of_subset k1 (l₂:=List.range s.length) (fun x hx=>List.mem_range.2 (k2 x hx))
 simpa using this
end
section
set_option linter.unusedVariables false
theorem way_err {s:List Nat} (hs:IsPerm s) {root lone:Int} (hok:MapOk s root lone) (hl:s.length≤1000) {k:Nat} (hk:k<5) {d e:Int} (h1:wayR s.length k d e=true) (h2:wayB s k d e=true):newErr (toI (wayL s k d e)) root lone=0:=by
 have he:=hok.1
 have hnat:∀ {x:Int},inR s.length x=true→∃ n:Nat,x=(n:Int)∧n<s.length:=fun {x} h=>by
  unfold inR at h
  have:=of_decide_eq_true h
  exact⟨x.toNat,by omega,by omega⟩
 have hgr:∃ v f,GrownL s (wayL s k d e) v f∧0≤v+f∧v+f≤1000∧0<s.length:=by
  rcases (by omega:k=0∨k=1∨k=2∨k=3∨k=4) with rfl|rfl|rfl|rfl|rfl
  ·obtain⟨D,rfl,hd⟩:=hnat h1
   exact⟨1,0,leaf_grown hs he hd,by decide,by decide,by omega⟩
  ·have h1':(inR s.length d && inR s.length e)=true:=h1
   rw[Bool.and_eq_true] at h1'
   obtain⟨D,rfl,hd⟩:=hnat h1'.1
   obtain⟨E,rfl,he'⟩:=hnat h1'.2
   have h3:nameI (phiL s) (atI s (D:Int))=nameI (phiL s) (atI s (E:Int)):=of_decide_eq_true h2
   rw[atI_in hd,atI_in he',nameI_in (by rw[phiL_length];exact hs.lt hd),nameI_in (by rw[phiL_length];exact hs.lt he')] at h3
   exact⟨0,1,chord_grown hs he hd he' h3,by decide,by decide,by omega⟩
  ·obtain⟨D,rfl,hd⟩:=hnat h1
   exact⟨1,0,split_grown hs he rfl hd,by decide,by decide,by omega⟩
  ·obtain⟨D,rfl,hd⟩:=hnat h1
   have h:=starL_grown hs he hd
   exact⟨1,_,h.1,by omega,by omega,by omega⟩
  ·obtain⟨D,rfl,hd⟩:=hnat h1
   have h3:flipB s D=true:=h2
   unfold flipB at h3
   have hm:=xor_one_lt he hd
   rw[orbI_in (by rw[phiL_length];exact hd),orbI_in (by rw[phiL_length];exact hm),nameI_in (by rw[phiL_length];exact hd),nameI_in (by rw[phiL_length];exact hm),toI_length,toI_length] at h3
   simp only[Bool.and_eq_true,decide_eq_true_eq,Bool.not_eq_true',decide_eq_false_iff_not] at h3
   obtain⟨m,pd,pa,pm,pb,hF⟩:=flipD_of hs he hd h3.1.1.1.1 h3.1.1.1.2 h3.1.1.2 h3.1.2 h3.2
   exact⟨0,0,FlipD.grown hs he hF,by decide,by decide,by omega⟩
 obtain⟨v,f,hgr,hvf,hvf2,h0⟩:=hgr
 have hes:=hgr.es
 have hev:=hgr.even
 obtain⟨o1,o2,o3,o4,o5⟩:=hok
 exact newErr_ok hgr.perm ⟨hev,by omega,o3,o4,Or.inr (by omega)⟩
end
section
open Go.RowKit
set_option linter.unusedVariables false
set_option maxRecDepth 100000 in
set_option maxHeartbeats 2000000 in
theorem do_leaf (R:Reg) (w:World) (hI:Inv R w) (v:Value) (s:List Nat) (root lone:Int) (hv:FreeI R w v (toI s)) (hS:IsPerm s) (hn:s.length≤99000) (hev:s.length % 2=0) (d:Nat) (hd:d<s.length) (e:Int):
  Calls Try.prog 8 #[refV v root lone,.int .i64 0,.int .i64 (d:Int),.int .i64 e] w (RetDo R w (leafL s d) root lone):=by
 obtain⟨a0,c0,rfl,_⟩:=hv.open
 rw[toI_length] at hv ⊢
 unfold refV
 have hp:=phiL_perm hS hev
 have hpl:=phiL_length s
 have hdm:=xor_one_lt hev hd
 have hmm:d ^^^ 1<s.length:=hdm
 have HPh:=Lib.hid (fun w' (he:Ev R w R w')=>rphi_any R w' he.inv _ s root lone (hv.ev he) (by omega) hev)
 have HNm:=Lib.hid (fun w' v' (hI':Inv R w') (h:FreeI R w' v' (toI (phiL s)))=>rnames_any R w' hI' v' (phiL s) h hp (by omega))
 have HIv:=Lib.hid (fun w' (he:Ev R w R w')=>rinverse_any R w' he.inv _ s (hv.ev he) hS (by omega))
 have HMt:=Lib.hid (fun w'=>rmate_any w' d (by omega))
 have HLs:=Lib.hid (fun w' (he:Ev R w R w')=>r23lists_any R w' he.inv _ s root lone (hv.ev he) hS (by omega))
 have hsm:=lists_sm hS (by omega)
 have hll:=Nat.le_trans (listsL_len s s.length) (Nat.le_trans hn (by decide:99000≤99000))
 have hivl:=invL_length s
 have he0:Ev R w R (w.alloc (.cells #[.slice a0 s.length c0,.int .i64 root,.int .i64 lone] 27)):=(Ev.refl hI).alloc _
 have he01:Ev R (w.alloc (.cells #[.slice a0 s.length c0,.int .i64 root,.int .i64 lone] 27)) R ((w.alloc (.cells #[.slice a0 s.length c0,.int .i64 root,.int .i64 lone] 27)).alloc (.cells #[.slice none 0 0,.int .i64 0,.int .i64 0] 27)):=(Ev.refl he0.inv).alloc _
 have he1:Ev R w R ((w.alloc (.cells #[.slice a0 s.length c0,.int .i64 root,.int .i64 lone] 27)).alloc (.cells #[.slice none 0 0,.int .i64 0,.int .i64 0] 27)):=he0.trans he01
 have hn1:R w.heap.size=none:=hI.none_of_ge (Nat.le_refl _)
 have hB1:=fun w' (h:Ev R ((w.alloc (.cells #[.slice a0 s.length c0,.int .i64 root,.int .i64 lone] 27)).alloc (.cells #[.slice none 0 0,.int .i64 0,.int .i64 0] 27)) R w')=>(he01.trans h).boxC3 (heap_alloc_new w _) hn1
 have hB2:=fun w' (h:Ev R ((w.alloc (.cells #[.slice a0 s.length c0,.int .i64 root,.int .i64 lone] 27)).alloc (.cells #[.slice none 0 0,.int .i64 0,.int .i64 0] 27)) R w')=>h.boxC3 (heap_alloc_new (w.alloc (.cells #[.slice a0 s.length c0,.int .i64 root,.int .i64 lone] 27)) (.cells #[.slice none 0 0,.int .i64 0,.int .i64 0] 27)) (he0.inv.none_of_ge (Nat.le_refl _))
 have hza:((w.alloc (.cells #[.slice a0 s.length c0,.int .i64 root,.int .i64 lone] 27)).alloc (.cells #[.slice none 0 0,.int .i64 0,.int .i64 0] 27)).heap.size=w.heap.size+2:=by simp
 rw[World.size_alloc] at hB2
 obtain⟨n,hnn⟩:∃ n,s.length=n:=⟨_,rfl⟩
 obtain⟨m,hm⟩:∃ m,d ^^^ 1=m:=⟨_,rfl⟩
 obtain⟨xss,hxs⟩:∃ x,listsL s s.length=x:=⟨_,rfl⟩
 have HXs:=Lib.hid hxs
 rw[hnn] at hxs
 rw[hm] at HMt hmm
 rw[HXs.out] at hsm hll
 rw[hnn,hxs] at HLs
 rw[hnn] at HPh HIv he0 he01 he1 hB1 hB2 hza hpl hivl hn hd hev hmm ⊢
 have hrw0:=leaf_rows hS (d:=d) (by omega)
 rw[hnn,hxs] at hrw0
 have HRw:=Lib.hid hrw0
 have HTl:=Lib.hid (show (leafL s d).length=n+2 by rw[leafL_length,hnn])
 clear hrw0
 have HNn:=Lib.hid hnn
 have HMe:=Lib.hid hm
 have HS:=Lib.hid hS
 have HSm:=Lib.hid hsm
 have HLl:=Lib.hid hll
 have HHv:=Lib.hid hv
 clear hI hv hS hnn hm hsm hll hxs hp
 go_enter Try.func8,Try.ntmps8
 go_upto_region 1 with fail
 obtain⟨wa,hwa⟩:∃ wa,(w.alloc (.cells #[.slice a0 n c0,.int .i64 root,.int .i64 lone] 27)).alloc (.cells #[.slice none 0 0,.int .i64 0,.int .i64 0] 27)=wa:=⟨_,rfl⟩
 try rw[hwa] at he1 hB1 hB2 hza ⊢
 have HB1:=Lib.hid (fun w' (h:Ev R wa R w')=>boxC_cells (hB1 w' h).1)
 have HB2:=Lib.hid hB2
 have HZa:=Lib.hid hza
 have HEa:=Lib.hid he1
 obtain⟨x0,x1,x2,_⟩:=HB1.out _ (Ev.refl he1.inv)
 have hdr:decide ((d:Int)<0)=false:=by simp
 have hdr2:decide ((n:Int)≤(d:Int))=false:=by simp;omega
 clear he0 he01 he1 hB1 hB2 hza hwa hn1
 go_wp2_with fail
 refine (HPh.out _ HEa.out).mono ?_
 rintro z w2 ⟨v2,rfl,he2,ho2⟩
 obtain⟨a2,c2,rfl,_⟩:=ho2.ints.open
 rw[toI_length,hpl] at ho2 ⊢
 have HE2:=Lib.hid he2
 have HO2:=Lib.hid ho2
 clear he2 ho2 x0 x1 x2
 go_wp2_with fail
 refine (HNm.out _ _ HE2.out.inv HO2.out.free).mono ?_
 rintro z w3 ⟨v3,rfl,he3,ho3⟩
 obtain⟨a3,c3,rfl,_⟩:=ho3.ints.open
 rw[namesL_length,hpl] at ho3 ⊢
 have HE3:=Lib.hid (HE2.out.trans he3)
 have HO3:=Lib.hid ho3
 have HO2:=Lib.hid (HO2.out.ev he3)
 obtain⟨x0,x1,x2,_⟩:=HB1.out w3 HE3.out
 clear he3 ho3
 go_wp2_with fail
 refine (HIv.out _ (HEa.out.trans HE3.out)).mono ?_
 rintro z w4 ⟨v4,rfl,he4,ho4⟩
 obtain⟨a4,c4,rfl,_⟩:=ho4.ints.open
 rw[toI_length,hivl] at ho4 ⊢
 have HE4:=Lib.hid (HE3.out.trans he4)
 have HO4:=Lib.hid ho4
 have HO2:=Lib.hid (HO2.out.ev he4)
 have HO3:=Lib.hid (HO3.out.ev he4)
 clear he4 ho4 x0 x1 x2
 go_wp2_with fail
 refine (HMt.out _).mono ?_
 rintro z w4' ⟨rfl,rfl⟩
 obtain⟨x0,x1,x2,_⟩:=HB1.out w4 HE4.out
 go_wp2_with fail
 refine (HLs.out _ (HEa.out.trans HE4.out)).mono ?_
 rintro z w5 ⟨a5,c5,vs5,rfl,he5,hov5,hrw5⟩
 have hR5:RowsAt R w4.heap.size w5 (.slice a5 xss.length c5) xss:=⟨a5,c5,vs5,rfl,hov5,hrw5⟩
 have HE5:=Lib.hid (HE4.out.trans he5)
 have HR5:=Lib.hid hR5
 have HO2:=Lib.hid (HO2.out.ev he5)
 have HO3:=Lib.hid (HO3.out.ev he5)
 have HO4:=Lib.hid (HO4.out.ev he5)
 obtain⟨l5,hl5⟩:∃ l,xss.length=l:=⟨_,rfl⟩
 try rw[hl5]
 rw[hl5] at HR5
 have HL5:=Lib.hid hl5
 have HLb:=Lib.hid (show l5≤99000 by rw[←hl5];exact HLl.out)
 clear he5 hov5 hrw5 hR5 hl5 x0 x1 x2
 go_wp2_with fail
 refine (after_any R _ HE5.out.inv _ _ xss HR5.out HSm.out d n (by omega) (by omega)).mono ?_
 rintro z w6 ⟨a6,c6,vs6,rfl,he6,hov6,hrw6⟩
 have hL6:(outL (aftF d n) xss).length=l5:=(outL_length _ _).trans HL5.out
 rw[hL6] at hov6 hrw6 ⊢
 have HE6:=Lib.hid (HE5.out.trans he6)
 have HV6:=Lib.hid hov6
 have HW6:=Lib.hid hrw6
 have HL6:=Lib.hid hL6
 have HSz6:=Lib.hid he6.size
 clear he6 hov6 hrw6 hL6
 have hE8:Ev R w6 R (w6.alloc (.cells #[.int .i64 ((n:Int)+1)] 3)):=(Ev.refl HE6.out.inv).alloc _
 have hF8:Ev R (w6.alloc (.cells #[.int .i64 ((n:Int)+1)] 3)) R ((w6.alloc (.cells #[.int .i64 ((n:Int)+1)] 3)).alloc (.cells #[.slice (some ⟨w6.heap.size,0,none⟩) 1 1] 25)):=(Ev.refl hE8.inv).alloc _
 have HE8:=Lib.hid (HE6.out.trans (hE8.trans hF8))
 have HV8:=Lib.hid (HV6.out.ev (hE8.trans hF8))
 have HW8:=Lib.hid (HW6.out.ev (hE8.trans hF8))
 have HRo8:=Lib.hid ((rowOk_lit1 (x:=n+1) HE6.out.inv (y:=(n:Int)+1) (by omega) HV6.out).ev hF8)
 clear hE8 hF8
 go_wp2_with (at_builtin;refine wpList_app_row 59 25 1 24 nilS Try.underlying59 islice_info rfl (by decide) (by decide) rfl _ _ rfl HV8.out rfl ⟨w6.heap.size+1,0,none⟩ 1 1 [.slice (some ⟨w6.heap.size,0,none⟩) 1 1] rfl ?z0 ?z1 ?z2 ?z3 ?z4 ?z5 ?_)
 try (case z0=>first|rfl|simp)
 case z1=>exact one_cell_next _ _ _
 case z2=>exact one_one _ _ _
 case z3=>have:=HLb.out;omega
 case z4=>have:=HSz6.out;simp;omega
 case z5=>exact fun q hq=>HE8.out.inv.none_of_ge hq
 intro v8' w8 ho8 hg8 hs8
 have hra8:=rows_next (xss:=outL (aftF d n) xss) HL6.out.symm HW8.out HRo8.out ho8 hg8 (fun q hq=>(hs8 q hq).imp id (fun h=>by first|exact h|simpa using h))
 have HEE8:=Lib.hid (HE8.out.appV HV8.out HE5.out.size hg8)
 have HRA8:=Lib.hid hra8
 clear hra8 ho8 hg8 hs8
 obtain⟨x0,x1,x2,_⟩:=HB1.out w8 HEE8.out
 go_wp2_with fail
 refine (r23made_any R _ HEE8.out.inv _ _ _ HRA8.out (HRw.out.sm (by have:=HTl.out;omega) (by have:=HLb.out;have:=HL5.out;simp[outL_length];omega)) _ HRw.out.lens HRw.out.below (by have:=HTl.out;omega) root lone).mono ?_
 rintro z w8e ⟨af,cf,rfl,hef,hof⟩
 rw[HRw.out.lay] at hof ⊢
 have HEf:=Lib.hid (HEE8.out.trans hef)
 have HOf:=Lib.hid hof
 have HSf:=Lib.hid HEE8.out.size
 clear hef hof x0 x1 x2
 obtain⟨y0,y1,y2,yz⟩:=boxC_cells (HB2.out _ HEf.out).1
 obtain⟨lf,hlf⟩:∃ l,(leafL s d).length=l:=⟨_,rfl⟩
 rw[hlf] at HOf
 try rw[hlf]
 have HLF:=Lib.hid hlf
 clear hlf
 simp only[refV]
 go_wp2_with fail
 have hb3:=set3 (x:=.slice af lf cf) (y:=.int .i64 root) (z:=.int .i64 lone) (HB2.out _ HEf.out).1
 obtain⟨u0,u1,u2,_⟩:=boxC_cells hb3
 have hn2:=(HB2.out _ HEf.out).2
 have hne:∀ (o:Nat),(Value.slice af lf cf).ownBlock≠some (⟨w.heap.size+1,o,none⟩:Addr).block:=fun o e'=>by
  have h1:=(HOf.out.lt _ e').1
  have h2:=HZa.out
  have h4:=HSf.out
  have h3:(⟨w.heap.size+1,o,none⟩:Addr).block=w.heap.size+1:=rfl
  omega
 try simp only[Exit.inBlock,Exit.then]
 refine bodyPost_ret (v:=.tuple #[refV (.slice af lf cf) root lone,.int .i64 0]) ?_ rfl ⟨af,cf,by rw[HLF.out],?_,?_⟩
 ·simp[results,Try.results8,go_sem,u0,u1,u2,refV]
 ·exact (((HEa.out.trans HEf.out).setCell (by simp) hn2 _).setCell (by simp) hn2 _).setCell (by simp) hn2 _
 ·rw[HLF.out]
  exact (((HOf.out.mono (by have:=HSf.out;have:=HZa.out;omega)).setCell (hne 0) _).setCell (hne 1) _).setCell (hne 2) _
end
section
open Go.RowKit
set_option linter.unusedVariables false
set_option maxRecDepth 100000 in
set_option maxHeartbeats 2000000 in
theorem do_chord (R:Reg) (w:World) (hI:Inv R w) (v:Value) (s:List Nat) (root lone:Int) (hv:FreeI R w v (toI s)) (hS:IsPerm s) (hn:s.length≤99000) (hev:s.length % 2=0) (d:Nat) (hd:d<s.length) (e:Nat) (he:e<s.length):
  Calls Try.prog 8 #[refV v root lone,.int .i64 1,.int .i64 (d:Int),.int .i64 (e:Int)] w (fun z w2=>(nth (namesL (phiL s)) (at' s d)=nth (namesL (phiL s)) (at' s e)∧RetDo R w (chordL s d e) root lone z w2)∨(nth (namesL (phiL s)) (at' s d)≠nth (namesL (phiL s)) (at' s e)∧z=.returned (.tuple #[refV v root lone,.int .i64 8])∧Ev R w R w2)):=by
 obtain⟨a0,c0,rfl,_⟩:=hv.open
 rw[toI_length] at hv ⊢
 unfold refV
 have hp:=phiL_perm hS hev
 have hpl:=phiL_length s
 have hdm:=xor_one_lt hev hd
 have hmm:d ^^^ 1<s.length:=hdm
 obtain⟨bS,oS,rfl,_⟩:=hv.at hd
 have HRd:=Lib.hid (fun w' (h:Ev R w R w') i (hi:i<s.length)=>(by
  obtain⟨b,o,e1,h1⟩:=(hv.ev h).at hi
  cases e1
  exact h1:w'.cell? ⟨bS,oS+i,none⟩=some (.int .i64 ((at' s i:Nat):Int))))
 have hsd:at' s d<s.length:=hS.lt hd
 have hse:at' s e<s.length:=hS.lt he
 have her:decide ((e:Int)<0)=false:=by simp
 have her2:decide ((s.length:Int)≤(e:Int))=false:=by simp;omega
 have HPh:=Lib.hid (fun w' (he:Ev R w R w')=>rphi_any R w' he.inv _ s root lone (hv.ev he) (by omega) hev)
 have HNm:=Lib.hid (fun w' v' (hI':Inv R w') (h:FreeI R w' v' (toI (phiL s)))=>rnames_any R w' hI' v' (phiL s) h hp (by omega))
 have HIv:=Lib.hid (fun w' (he:Ev R w R w')=>rinverse_any R w' he.inv _ s (hv.ev he) hS (by omega))
 have HMt:=Lib.hid (fun w'=>rmate_any w' d (by omega))
 have HLs:=Lib.hid (fun w' (he:Ev R w R w')=>r23lists_any R w' he.inv _ s root lone (hv.ev he) hS (by omega))
 have hsm:=lists_sm hS (by omega)
 have hll:=Nat.le_trans (listsL_len s s.length) (Nat.le_trans hn (by decide:99000≤99000))
 have hivl:=invL_length s
 have he0:Ev R w R (w.alloc (.cells #[.slice (some ⟨bS,oS,none⟩) s.length c0,.int .i64 root,.int .i64 lone] 27)):=(Ev.refl hI).alloc _
 have he01:Ev R (w.alloc (.cells #[.slice (some ⟨bS,oS,none⟩) s.length c0,.int .i64 root,.int .i64 lone] 27)) R ((w.alloc (.cells #[.slice (some ⟨bS,oS,none⟩) s.length c0,.int .i64 root,.int .i64 lone] 27)).alloc (.cells #[.slice none 0 0,.int .i64 0,.int .i64 0] 27)):=(Ev.refl he0.inv).alloc _
 have he1:Ev R w R ((w.alloc (.cells #[.slice (some ⟨bS,oS,none⟩) s.length c0,.int .i64 root,.int .i64 lone] 27)).alloc (.cells #[.slice none 0 0,.int .i64 0,.int .i64 0] 27)):=he0.trans he01
 have hn1:R w.heap.size=none:=hI.none_of_ge (Nat.le_refl _)
 have hB1:=fun w' (h:Ev R ((w.alloc (.cells #[.slice (some ⟨bS,oS,none⟩) s.length c0,.int .i64 root,.int .i64 lone] 27)).alloc (.cells #[.slice none 0 0,.int .i64 0,.int .i64 0] 27)) R w')=>(he01.trans h).boxC3 (heap_alloc_new w _) hn1
 have hB2:=fun w' (h:Ev R ((w.alloc (.cells #[.slice (some ⟨bS,oS,none⟩) s.length c0,.int .i64 root,.int .i64 lone] 27)).alloc (.cells #[.slice none 0 0,.int .i64 0,.int .i64 0] 27)) R w')=>h.boxC3 (heap_alloc_new (w.alloc (.cells #[.slice (some ⟨bS,oS,none⟩) s.length c0,.int .i64 root,.int .i64 lone] 27)) (.cells #[.slice none 0 0,.int .i64 0,.int .i64 0] 27)) (he0.inv.none_of_ge (Nat.le_refl _))
 have hza:((w.alloc (.cells #[.slice (some ⟨bS,oS,none⟩) s.length c0,.int .i64 root,.int .i64 lone] 27)).alloc (.cells #[.slice none 0 0,.int .i64 0,.int .i64 0] 27)).heap.size=w.heap.size+2:=by simp
 rw[World.size_alloc] at hB2
 obtain⟨n,hnn⟩:∃ n,s.length=n:=⟨_,rfl⟩
 obtain⟨m,hm⟩:∃ m,d ^^^ 1=m:=⟨_,rfl⟩
 obtain⟨xss,hxs⟩:∃ x,listsL s s.length=x:=⟨_,rfl⟩
 have HXs:=Lib.hid hxs
 rw[hnn] at hxs
 rw[hm] at HMt hmm
 rw[HXs.out] at hsm hll
 rw[hnn,hxs] at HLs
 rw[hnn] at HPh HIv he0 he01 he1 hB1 hB2 hza hpl hivl hn hd hev hmm ⊢
 have hrw0:=chord_rows hS (d:=d) (e:=e) (by omega) (by omega)
 rw[hnn,hxs] at hrw0
 rw[hnn] at HRd hsd hse her2 he
 have HRw:=Lib.hid hrw0
 have HTl:=Lib.hid (show (chordL s d e).length=n+2 by rw[chordL,behindL_length,leafL_length,hnn])
 obtain⟨pd,hpd⟩:∃ p,at' s d=p:=⟨_,rfl⟩
 obtain⟨pe,hpe⟩:∃ p,at' s e=p:=⟨_,rfl⟩
 have HPd:=Lib.hid hpd
 have HPe:=Lib.hid hpe
 rw[hpd] at hsd
 rw[hpe] at hse
 rw[hpd,hpe]
 obtain⟨NF,hNF⟩:∃ N,namesL (phiL s)=N:=⟨_,rfl⟩
 have HNF:=Lib.hid hNF
 rw[hNF] at HNm ⊢
 have hnfl:NF.length=n:=by rw[←hNF,namesL_length,hpl]
 have HNl:=Lib.hid hnfl
 obtain⟨qd,hqd⟩:∃ q,nth NF pd=q:=⟨_,rfl⟩
 obtain⟨qe,hqe⟩:∃ q,nth NF pe=q:=⟨_,rfl⟩
 rw[hqd,hqe]
 have HQd:=Lib.hid hqd
 have HQe:=Lib.hid hqe
 clear hrw0 hpd hpe hNF hnfl hqd hqe
 have HNn:=Lib.hid hnn
 have HMe:=Lib.hid hm
 have HS:=Lib.hid hS
 have HSm:=Lib.hid hsm
 have HLl:=Lib.hid hll
 have HHv:=Lib.hid hv
 clear hI hv hS hnn hm hsm hll hxs hp
 go_enter Try.func8,Try.ntmps8
 go_upto_region 1 with fail
 obtain⟨wa,hwa⟩:∃ wa,(w.alloc (.cells #[.slice (some ⟨bS,oS,none⟩) n c0,.int .i64 root,.int .i64 lone] 27)).alloc (.cells #[.slice none 0 0,.int .i64 0,.int .i64 0] 27)=wa:=⟨_,rfl⟩
 try rw[hwa] at he1 hB1 hB2 hza ⊢
 have HB1:=Lib.hid (fun w' (h:Ev R wa R w')=>boxC_cells (hB1 w' h).1)
 have HB2:=Lib.hid hB2
 have HZa:=Lib.hid hza
 have HEa:=Lib.hid he1
 obtain⟨x0,x1,x2,_⟩:=HB1.out _ (Ev.refl he1.inv)
 have hdr:decide ((d:Int)<0)=false:=by simp
 have hdr2:decide ((n:Int)≤(d:Int))=false:=by simp;omega
 clear he0 he01 he1 hB1 hB2 hza hwa hn1
 go_wp2_with fail
 refine (HPh.out _ HEa.out).mono ?_
 rintro z w2 ⟨v2,rfl,he2,ho2⟩
 obtain⟨a2,c2,rfl,_⟩:=ho2.ints.open
 rw[toI_length,hpl] at ho2 ⊢
 have HE2:=Lib.hid he2
 have HO2:=Lib.hid ho2
 clear he2 ho2 x0 x1 x2
 go_wp2_with fail
 refine (HNm.out _ _ HE2.out.inv HO2.out.free).mono ?_
 rintro z w3 ⟨v3,rfl,he3,ho3⟩
 obtain⟨a3,c3,rfl,_⟩:=ho3.ints.open
 rw[HNl.out] at ho3 ⊢
 have HE3:=Lib.hid (HE2.out.trans he3)
 have HO3:=Lib.hid ho3
 have HO2:=Lib.hid (HO2.out.ev he3)
 obtain⟨x0,x1,x2,_⟩:=HB1.out w3 HE3.out
 clear he3 ho3
 go_wp2_with fail
 refine (HIv.out _ (HEa.out.trans HE3.out)).mono ?_
 rintro z w4 ⟨v4,rfl,he4,ho4⟩
 obtain⟨a4,c4,rfl,_⟩:=ho4.ints.open
 rw[toI_length,hivl] at ho4 ⊢
 have HE4:=Lib.hid (HE3.out.trans he4)
 have HO4:=Lib.hid ho4
 have HO2:=Lib.hid (HO2.out.ev he4)
 have HO3:=Lib.hid (HO3.out.ev he4)
 clear he4 ho4 x0 x1 x2
 go_wp2_with fail
 refine (HMt.out _).mono ?_
 rintro z w4' ⟨rfl,rfl⟩
 obtain⟨x0,x1,x2,_⟩:=HB1.out w4 HE4.out
 go_wp2_with fail
 refine (HLs.out _ (HEa.out.trans HE4.out)).mono ?_
 rintro z w5 ⟨a5,c5,vs5,rfl,he5,hov5,hrw5⟩
 have hR5:RowsAt R w4.heap.size w5 (.slice a5 xss.length c5) xss:=⟨a5,c5,vs5,rfl,hov5,hrw5⟩
 have HE5:=Lib.hid (HE4.out.trans he5)
 have HR5:=Lib.hid hR5
 have HO2:=Lib.hid (HO2.out.ev he5)
 have HO3:=Lib.hid (HO3.out.ev he5)
 have HO4:=Lib.hid (HO4.out.ev he5)
 obtain⟨l5,hl5⟩:∃ l,xss.length=l:=⟨_,rfl⟩
 try rw[hl5]
 rw[hl5] at HR5
 have HL5:=Lib.hid hl5
 have HLb:=Lib.hid (show l5≤99000 by rw[←hl5];exact HLl.out)
 clear he5 hov5 hrw5 hR5 hl5 x0 x1 x2
 go_wp2_with fail
 have hrd:=HRd.out _ (HEa.out.trans HE5.out)
 have hcd:=hrd d hd
 have hce:=hrd e he
 rw[HPd.out] at hcd
 rw[HPe.out] at hce
 obtain⟨g3,rfl,_,_,hcf,_⟩:=HO3.out.headAt HNl.out hsd
 obtain⟨g3',e3',_,_,hcg,_⟩:=HO3.out.headAt HNl.out hse
 cases e3'
 clear hrd
 obtain⟨x0,x1,x2,_⟩:=HB1.out w5 HE5.out
 rw[HQd.out] at hcf
 rw[HQe.out] at hcg
 have hE5d:Ev R w5 R w5.drew:=(Ev.refl HE5.out.inv).drew
 have HE5d:=Lib.hid hE5d
 by_cases hq:qd=qe
 ·have hqb:(qd != qe)=false:=by simp[hq]
  have HQ:=Lib.hid hq
  clear hq hE5d
  go_region
  all_goals go_wp2_with fail
  have HEE5:=Lib.hid (HE5.out.trans HE5d.out)
  have HRd5:=Lib.hid (HR5.out.ev HE5d.out)
  clear hqb x0 x1 x2 hcd hce hcf hcg
  refine (after_any R _ HEE5.out.inv _ _ xss HRd5.out HSm.out d n (by omega) (by omega)).mono ?_
  rintro z w6 ⟨a6,c6,vs6,rfl,he6,hov6,hrw6⟩
  have hL6:(outL (aftF d n) xss).length=l5:=(outL_length _ _).trans HL5.out
  have hR6:RowsAt R w5.drew.heap.size w6 (.slice a6 (outL (aftF d n) xss).length c6) (outL (aftF d n) xss):=⟨a6,c6,vs6,rfl,hov6,hrw6⟩
  rw[hL6] at hR6 ⊢
  have HE6:=Lib.hid (HEE5.out.trans he6)
  have HR6:=Lib.hid hR6
  have HL6:=Lib.hid hL6
  have HSm6:=Lib.hid (((lists_rowsF HS.out).after (t:=d) (d:=s.length) (by rw[HNn.out];exact hd) (Nat.lt_irrefl _)).sm (N:=n+1) (fun y hy=>by have:=HNn.out;omega) (by omega) (by rw[outL_length,HXs.out];have:=HLl.out;omega))
  rw[HNn.out,show listsL s n=xss by rw[←HNn.out];exact HXs.out] at HSm6
  clear he6 hov6 hrw6 hL6 hR6
  by_cases hde:d=e
  ·have hrw:=HRw.out
   rw[if_pos hde] at hrw
   have HRw:=Lib.hid hrw
   have hdb:((d:Int) == (e:Int))=true:=by simp[hde]
   clear hrw hde
   go_wp2_with fail
   refine (after_any R _ HE6.out.inv _ _ (outL (aftF d n) xss) HR6.out HSm6.out n (n+1) (by omega) (by omega)).mono ?_
   rintro z w8 ⟨a8,c8,vs8,rfl,he8,hov8,hrw8⟩
   have hR8:RowsAt R w6.heap.size w8 (.slice a8 (outL (aftF n (n+1)) (outL (aftF d n) xss)).length c8) (outL (aftF n (n+1)) (outL (aftF d n) xss)):=⟨a8,c8,vs8,rfl,hov8,hrw8⟩
   have HRA8:=Lib.hid hR8
   have HEE8:=Lib.hid (HE6.out.trans he8)
   clear he8 hov8 hrw8 hR8
   obtain⟨x0,x1,x2,_⟩:=HB1.out w8 HEE8.out
   go_wp2_with fail
   refine (r23made_any R _ HEE8.out.inv _ _ _ HRA8.out (HRw.out.sm (by have:=HTl.out;omega) (by have:=HLb.out;have:=HL5.out;simp[outL_length];omega)) _ HRw.out.lens HRw.out.below (by have:=HTl.out;omega) root lone).mono ?_
   rintro z w8e ⟨af,cf,rfl,hef,hof⟩
   rw[HRw.out.lay] at hof ⊢
   have HEf:=Lib.hid (HEE8.out.trans hef)
   have HOf:=Lib.hid hof
   have HSf:=Lib.hid HEE8.out.size
   clear hef hof x0 x1 x2
   obtain⟨y0,y1,y2,yz⟩:=boxC_cells (HB2.out _ HEf.out).1
   obtain⟨lf,hlf⟩:∃ l,(chordL s d e).length=l:=⟨_,rfl⟩
   rw[hlf] at HOf
   try rw[hlf]
   have HLF:=Lib.hid hlf
   clear hlf
   simp only[refV]
   go_wp2_with fail
   have hb3:=set3 (x:=.slice af lf cf) (y:=.int .i64 root) (z:=.int .i64 lone) (HB2.out _ HEf.out).1
   obtain⟨u0,u1,u2,_⟩:=boxC_cells hb3
   have hn2:=(HB2.out _ HEf.out).2
   have hne:∀ (o:Nat),(Value.slice af lf cf).ownBlock≠some (⟨w.heap.size+1,o,none⟩:Addr).block:=fun o e'=>by
    have h1:=(HOf.out.lt _ e').1
    have h2:=HZa.out
    have h4:=HSf.out
    have h3:(⟨w.heap.size+1,o,none⟩:Addr).block=w.heap.size+1:=rfl
    omega
   try simp only[Exit.inBlock,Exit.then]
   refine bodyPost_ret (v:=.tuple #[refV (.slice af lf cf) root lone,.int .i64 0]) ?_ rfl (Or.inl ⟨HQ.out,⟨af,cf,by rw[HLF.out],?_,?_⟩⟩)
   ·simp[results,Try.results8,go_sem,u0,u1,u2,refV]
   ·exact (((HEa.out.trans HEf.out).setCell (by simp) hn2 _).setCell (by simp) hn2 _).setCell (by simp) hn2 _
   ·rw[HLF.out]
    exact (((HOf.out.mono (by have:=HSf.out;have:=HZa.out;omega)).setCell (hne 0) _).setCell (hne 1) _).setCell (hne 2) _
  ·have hrw:=HRw.out
   rw[if_neg hde] at hrw
   have HRw:=Lib.hid hrw
   have hdb:((d:Int) == (e:Int))=false:=by simp;omega
   clear hrw hde
   go_wp2_with fail
   refine (after_any R _ HE6.out.inv _ _ (outL (aftF d n) xss) HR6.out HSm6.out e (n+1) (by omega) (by omega)).mono ?_
   rintro z w8 ⟨a8,c8,vs8,rfl,he8,hov8,hrw8⟩
   have hR8:RowsAt R w6.heap.size w8 (.slice a8 (outL (aftF e (n+1)) (outL (aftF d n) xss)).length c8) (outL (aftF e (n+1)) (outL (aftF d n) xss)):=⟨a8,c8,vs8,rfl,hov8,hrw8⟩
   have HRA8:=Lib.hid hR8
   have HEE8:=Lib.hid (HE6.out.trans he8)
   clear he8 hov8 hrw8 hR8
   obtain⟨x0,x1,x2,_⟩:=HB1.out w8 HEE8.out
   go_wp2_with fail
   refine (r23made_any R _ HEE8.out.inv _ _ _ HRA8.out (HRw.out.sm (by have:=HTl.out;omega) (by have:=HLb.out;have:=HL5.out;simp[outL_length];omega)) _ HRw.out.lens HRw.out.below (by have:=HTl.out;omega) root lone).mono ?_
   rintro z w8e ⟨af,cf,rfl,hef,hof⟩
   rw[HRw.out.lay] at hof ⊢
   have HEf:=Lib.hid (HEE8.out.trans hef)
   have HOf:=Lib.hid hof
   have HSf:=Lib.hid HEE8.out.size
   clear hef hof x0 x1 x2
   obtain⟨y0,y1,y2,yz⟩:=boxC_cells (HB2.out _ HEf.out).1
   obtain⟨lf,hlf⟩:∃ l,(chordL s d e).length=l:=⟨_,rfl⟩
   rw[hlf] at HOf
   try rw[hlf]
   have HLF:=Lib.hid hlf
   clear hlf
   simp only[refV]
   go_wp2_with fail
   have hb3:=set3 (x:=.slice af lf cf) (y:=.int .i64 root) (z:=.int .i64 lone) (HB2.out _ HEf.out).1
   obtain⟨u0,u1,u2,_⟩:=boxC_cells hb3
   have hn2:=(HB2.out _ HEf.out).2
   have hne:∀ (o:Nat),(Value.slice af lf cf).ownBlock≠some (⟨w.heap.size+1,o,none⟩:Addr).block:=fun o e'=>by
    have h1:=(HOf.out.lt _ e').1
    have h2:=HZa.out
    have h4:=HSf.out
    have h3:(⟨w.heap.size+1,o,none⟩:Addr).block=w.heap.size+1:=rfl
    omega
   try simp only[Exit.inBlock,Exit.then]
   refine bodyPost_ret (v:=.tuple #[refV (.slice af lf cf) root lone,.int .i64 0]) ?_ rfl (Or.inl ⟨HQ.out,⟨af,cf,by rw[HLF.out],?_,?_⟩⟩)
   ·simp[results,Try.results8,go_sem,u0,u1,u2,refV]
   ·exact (((HEa.out.trans HEf.out).setCell (by simp) hn2 _).setCell (by simp) hn2 _).setCell (by simp) hn2 _
   ·rw[HLF.out]
    exact (((HOf.out.mono (by have:=HSf.out;have:=HZa.out;omega)).setCell (hne 0) _).setCell (hne 1) _).setCell (hne 2) _
 ·have hqb:(qd != qe)=true:=by simp[hq]
  have HQ:=Lib.hid hq
  clear hq hE5d
  obtain⟨y0,y1,y2,yz⟩:=boxC_cells (HB2.out _ HE5.out).1
  go_region
  all_goals go_wp2_with fail
  have hb3:=set3 (x:=.slice (some ⟨bS,oS,none⟩) n c0) (y:=.int .i64 root) (z:=.int .i64 lone) (HB2.out _ HE5.out).1
  obtain⟨u0,u1,u2,_⟩:=boxC_cells hb3
  have hn2:=(HB2.out _ HE5.out).2
  refine bodyPost_ret (v:=.tuple #[refV (.slice (some ⟨bS,oS,none⟩) n c0) root lone,.int .i64 8]) ?_ rfl (Or.inr ⟨HQ.out,rfl,?_⟩)
  ·simp[results,Try.results8,go_sem,u0,u1,u2,refV]
  ·exact ((((HEa.out.trans HE5.out).setCell (by simp) hn2 _).setCell (by simp) hn2 _).setCell (by simp) hn2 _).drew
end
end Go.Proofs.Ytklkgicjfnbndaa
