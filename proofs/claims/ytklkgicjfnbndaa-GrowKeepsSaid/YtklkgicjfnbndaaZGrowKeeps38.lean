/- parquetryref12.Decode: rows of darts and a stack, letter by letter; behind the last letter the rows tell a turn. -/
import Derived.Test.YtklkgicjfnbndaaZGrowKeeps32
import Derived.Test.YtklkgicjfnbndaaZGrowKeeps34
import Derived.Test.YtklkgicjfnbndaaZGrowKeeps33
import Derived.Test.YtklkgicjfnbndaaZGrowKeeps29
import Derived.Test.YtklkgicjfnbndaaZGrowKeeps01
import Derived.Test.YtklkgicjfnbndaaZGrowKeeps14
import Derived.Test.YtklkgicjfnbndaaZGrowKeeps35
namespace Go.Proofs.Ytklkgicjfnbndaa
section
set_option linter.unusedVariables false
def topL (S:List Nat):Nat:=at' S (S.length-1)
def decP (L:List Int) (N:List Nat):Nat→List Nat × List (List Nat)
 | 0=>([0],[[]])
 | i+1=>
  let q:=decP L N i
  let X:=q.2.set (topL q.1) (q.2.getD (topL q.1) [] ++ [at' N i])
  if nth L i=0 then (q.1 ++ [X.length],X ++ [[]]) else if nth L i=1 then (q.1.take (q.1.length-1),X) else (q.1,X)
theorem decP_succ (L:List Int) (N:List Nat) (i:Nat):decP L N (i+1)=(let q:=decP L N i
  let X:=q.2.set (topL q.1) (q.2.getD (topL q.1) [] ++ [at' N i])
  if nth L i=0 then (q.1 ++ [X.length],X ++ [[]]) else if nth L i=1 then (q.1.take (q.1.length-1),X) else (q.1,X)):=rfl
theorem set_flat (d:Nat):∀ (X:List (List Nat)) (v:Nat),v<X.length→(X.set v (X.getD v [] ++ [d])).flatten.Perm (d :: X.flatten)
 | [],v,h=>by simp at h
 | x :: X,0,_=>by
  simp only[List.set_cons_zero,List.getD_cons_zero,List.flatten_cons,List.append_assoc]
  exact List.perm_middle
 | x :: X,v+1,h=>by
  simp only[List.set_cons_succ,List.getD_cons_succ,List.flatten_cons]
  have:=set_flat d X v (by simpa using h)
  exact (List.Perm.append_left x this).trans List.perm_middle
structure DecI (N:List Nat) (i h:Nat) (q:List Nat × List (List Nat)):Prop where
 len:q.1.length=1+h
 rows:q.2.length≤i+1
 st:∀ x,x∈q.1→x<q.2.length
 perm:q.2.flatten.Perm (N.take i)
theorem topL_mem {S:List Nat} (h:0<S.length):topL S∈S:=by
 unfold topL
 rw[at'_eq (by omega)]
 exact List.getElem_mem _
theorem decP_inv {p:Nat} {bs:List Nat} {N:List Nat} (hN:N.length=2*p):∀ i,i≤2*p→DecI N i (anyS p bs i).2.1 (decP (anyW p bs) N i)
 | 0,_=>⟨rfl,Nat.le_refl _,fun x hx=>by
   have:x=0:=by simpa [decP] using hx
   subst this;exact Nat.succ_pos _,by show List.Perm [] _;simp⟩
 | i+1,hi=>by
  have ih:=decP_inv (bs:=bs) hN i (by omega)
  have hst:=(anyK_step p bs i).2
  have hL:nth (anyW p bs) i=anyK p bs i:=anyW_nth (by omega)
  rw[decP_succ]
  dsimp only
  rw[hL]
  obtain⟨q,hq⟩:∃ q,decP (anyW p bs) N i=q:=⟨_,rfl⟩
  rw[hq] at ih ⊢
  obtain⟨i1,i2,i3,i4⟩:=ih
  have htop:topL q.1<q.2.length:=i3 _ (topL_mem (by omega))
  have hXl:(q.2.set (topL q.1) (q.2.getD (topL q.1) [] ++ [at' N i])).length=q.2.length:=List.length_set
  have hXp:(q.2.set (topL q.1) (q.2.getD (topL q.1) [] ++ [at' N i])).flatten.Perm (N.take (i+1)):=by
   refine (set_flat (at' N i) q.2 _ htop).trans ?_
   rw[List.take_succ_eq_append_getElem (by omega),at'_eq (by omega)]
   exact (List.Perm.cons _ i4).trans (List.perm_append_singleton _ _).symm
  obtain⟨X,hX⟩:∃ X,q.2.set (topL q.1) (q.2.getD (topL q.1) [] ++ [at' N i])=X:=⟨_,rfl⟩
  rw[hX] at hXl hXp ⊢
  rcases hst with ⟨k,e⟩|⟨k,e⟩|⟨k,h0,e⟩|⟨k,h0,e⟩
  ·rw[k,if_pos rfl,e]
   refine⟨by simp[i1];omega,by simp;omega,fun x hx=>?_,by simpa using hXp⟩
   rw[List.length_append,List.length_singleton]
   rcases List.mem_append.1 hx with hx|hx
   ·have:=i3 x hx;omega
   ·rw[List.mem_singleton.1 hx];omega
  ·rw[k,if_neg (by decide),if_neg (by decide),e]
   exact⟨i1,by show X.length≤_;omega,fun x hx=>by show x<X.length;rw[hXl];exact i3 x hx,hXp⟩
  ·rw[k,if_neg (by decide),if_pos rfl,e]
   refine⟨by show (q.1.take (q.1.length-1)).length=_;rw[List.length_take];omega,by show X.length≤_;omega,fun x hx=>?_,hXp⟩
   show x<X.length
   rw[hXl]
   exact i3 x (List.mem_of_mem_take hx)
  ·rw[k,if_neg (by decide),if_neg (by decide),e]
   exact⟨i1,by show X.length≤_;omega,fun x hx=>by show x<X.length;rw[hXl];exact i3 x hx,hXp⟩
theorem lay_perm {X:List (List Nat)} {N:List Nat} (hN:IsPerm N) (hp:X.flatten.Perm N):RowsOf X (layA X (List.replicate N.length 0))∧(layA X (List.replicate N.length 0)).length=N.length:=by
 have hl:(layA X (List.replicate N.length 0)).length=N.length:=by rw[layA_length,List.length_replicate]
 have hnd:X.flatten.Nodup:=hp.nodup_iff.2 hN.1
 have hmem:∀ y,y∈X.flatten↔y<N.length:=fun y=>by
  rw[hp.mem_iff]
  constructor
  ·exact hN.2 y
  ·intro hy
   obtain⟨e,hk⟩:=at_invL hN hy
   rw[←e,at'_eq hk]
   exact List.getElem_mem _
 obtain⟨h1,_⟩:=layA_at X (List.replicate N.length 0) hnd (fun x hx=>by rw[List.length_replicate];exact (hmem x).1 hx)
 exact⟨⟨hnd,fun y=>by rw[hl];exact hmem y,h1⟩,hl⟩
theorem decP_turn {p:Nat} {bs:List Nat} {N:List Nat} (hN:IsPerm N) (hl:N.length=2*p):
  IsPerm (layA (decP (anyW p bs) N (2*p)).2 (List.replicate (2*p) 0))∧(layA (decP (anyW p bs) N (2*p)).2 (List.replicate (2*p) 0)).length=2*p∧RowsOf (decP (anyW p bs) N (2*p)).2 (layA (decP (anyW p bs) N (2*p)).2 (List.replicate (2*p) 0)):=by
 have h:=(decP_inv (bs:=bs) hl (2*p) (Nat.le_refl _)).perm
 rw[List.take_of_length_le (by omega)] at h
 have h2:=lay_perm hN h
 rw[hl] at h2
 exact⟨h2.1.isPerm,h2.2,h2.1⟩
end
section
open Go.RowKit
set_option linter.unusedVariables false
theorem nodup_len {v:List Nat} (hn:v.Nodup) {N:Nat} (h:∀ x,x∈v→x<N):v.length≤N:=by
 by_cases hl:v.length≤N
 ·exact hl
 ·obtain⟨a,b,hab,hb,e⟩:=pigeon N (fun k=>at' v k) (fun k hk=>h _ (by rw[at'_eq (by omega)];exact List.getElem_mem _))
  simp only[at'_eq (show a<v.length by omega),at'_eq (show b<v.length by omega)] at e
  have:=nodup_inj hn (by omega) (by omega) e
  omega
theorem RowsF.sm {xss:List (List Nat)} {D:Nat→Prop} {f:Nat→Nat} (h:RowsF xss D f) {N:Nat} (hD:∀ y,D y→y<N) (hN:N≤100000) (hl:xss.length≤100000):RowsSm xss:=by
 refine⟨hl,fun i hi=>?_⟩
 have hm:xss.getD i []∈xss:=by simp[List.getD,hi]
 have hlt:∀ x,x∈xss.getD i []→x<N:=fun x hx=>hD x ((h.mem x).1 (List.mem_flatten.2 ⟨_,hm,hx⟩))
 exact⟨Nat.le_trans (nodup_len (h.rowNd hm) hlt) hN,fun x hx=>by have:=hlt x hx;omega⟩
theorem RowsOf.below {xss:List (List Nat)} {T:List Nat} (h:RowsOf xss T):∀ i,i<xss.length→∀ x,x∈xss.getD i []→x<T.length:=fun i hi x hx=>
 (h.mem x).1 (List.mem_flatten.2 ⟨xss.getD i [],by simp[List.getD,hi],hx⟩)
theorem OwnI.lit1 {R:Reg} {W:World} {B:Nat} (hI:Inv R W) (hB:B≤W.heap.size) (y:Int):OwnI R B 3 (W.alloc (.cells #[.int .i64 y] 3)) (.slice (some ⟨W.heap.size,0,none⟩) 1 1) [y]:=by
 have h:=World.ownsRow_lit (base:=B) (e:=3) (size:=1) W #[.int .i64 y] 1 hB (by simp[maxLen]) rfl
 refine⟨by simpa using h,fun k hk=>?_⟩
 simp only[Value.ownBlock,Option.some.injEq] at hk
 rw[←hk]
 exact hI.none_of_ge (Nat.le_refl _)
section
variable {a : Act} {ops : Array Oper} {Q : Exit → Act → World → Prop} {o : Oper} {rest : List Oper}
end
end
section
set_option linter.unusedVariables false
section
variable {s : List Nat} {e : Nat} (h2 : s.length = 2 * e) {d : Nat} (hd : d < s.length)
include h2 hd
theorem leaf_low {j:Nat} (hj:j<s.length):at' (leafL s d) j=if j=d then 2*e else at' s j:=by
 rw[leaf_at hd (by omega),if_neg (by omega)]
 unfold insF
 split
 ·exact h2
 ·rw[if_neg (by omega)]
theorem leaf_n:at' (leafL s d) (2*e)=at' s d:=by
 rw[leaf_at hd (by omega),if_neg (by omega)]
 unfold insF
 rw[if_neg (by omega),if_pos (by omega)]
theorem leaf_n1:at' (leafL s d) (2*e+1)=2*e+1:=by
 rw[leaf_at hd (by omega),if_pos (by omega),h2]
end
theorem chord_at {s:List Nat} {d f y:Nat} (hy:y<s.length+2):at' (chordL s d f) y=insF (at' (leafL s d)) (if d=f then s.length else f) (s.length+1) y:=by
 unfold chordL
 exact behind_at (by rw[leafL_length];exact hy)
theorem chord_length (s:List Nat) (d f:Nat):(chordL s d f).length=s.length+2:=by unfold chordL;rw[behindL_length,leafL_length]
theorem chord_vals {s:List Nat} {e:Nat} (h2:s.length=2*e) {d f:Nat} (hd:d<s.length) (hf:f<s.length):(∀ j,j<s.length→at' (chordL s d f) j=if j=d then 2*e else if j=f then 2*e+1 else at' s j)∧(d=f→at' (chordL s d f) (2*e)=2*e+1∧at' (chordL s d f) (2*e+1)=at' s d)∧(d≠f→at' (chordL s d f) (2*e)=at' s d∧at' (chordL s d f) (2*e+1)=at' s f):=by
 refine⟨fun j hj=>?_,fun c=>?_,fun c=>?_⟩
 ·rw[chord_at (by omega)]
  unfold insF
  by_cases c:d=f
  ·rw[if_pos c,if_neg (by omega),if_neg (by omega),leaf_low h2 hd hj]
   split
   ·rfl
   ·rw[if_neg (by omega)]
  ·rw[if_neg c]
   by_cases c2:j=f
   ·rw[if_pos c2,if_neg (by omega),if_pos c2,h2]
   ·rw[if_neg c2,if_neg (by omega),leaf_low h2 hd hj]
    split
    ·rfl
    ·rfl
 ·constructor
  ·rw[chord_at (by omega)]
   unfold insF
   rw[if_pos c,if_pos (by omega),h2]
  ·rw[chord_at (by omega)]
   unfold insF
   rw[if_pos c,if_neg (by omega),if_pos (by omega),h2]
   exact leaf_n h2 hd
 ·constructor
  ·rw[chord_at (by omega)]
   unfold insF
   rw[if_neg c,if_neg (by omega),if_neg (by omega)]
   exact leaf_n h2 hd
  ·rw[chord_at (by omega)]
   unfold insF
   rw[if_neg c,if_neg (by omega),if_pos (by omega),leaf_low h2 hd hf,if_neg (Ne.symm c)]
end
section
open Go.RowKit
set_option linter.unusedVariables false
theorem leaf_nil (w:World) (d:Int):Calls Try.prog 22 #[.pointer none,.int .i64 d] w fun e w'=>e=.returned (.tuple #[.pointer none,.int .i64 2])∧∀ R,Inv R w→Ev R w R w':=by
 have H:=Lib.hid (fun w' v=>gof_nil w' v)
 go_enter Try.func22,Try.ntmps22
 go_wp2_with fail
 refine (H.out _ _).mono ?_
 rintro e w' ⟨rfl,rfl⟩
 go_wp2_with fail
 go_ret2
 exact⟨rfl,fun R h=>(Ev.refl h).alloc _⟩
theorem split_nil (w:World) (d:Int):Calls Try.prog 29 #[.pointer none,.int .i64 d] w fun e w'=>e=.returned (.tuple #[.pointer none,.int .i64 2])∧∀ R,Inv R w→Ev R w R w':=by
 have H:=Lib.hid (fun w' v=>gof_nil w' v)
 go_enter Try.func29,Try.ntmps29
 go_wp2_with fail
 refine (H.out _ _).mono ?_
 rintro e w' ⟨rfl,rfl⟩
 go_wp2_with fail
 go_ret2
 exact⟨rfl,fun R h=>(Ev.refl h).alloc _⟩
theorem star_nil (w:World) (d:Int):Calls Try.prog 30 #[.pointer none,.int .i64 d] w fun e w'=>e=.returned (.tuple #[.pointer none,.int .i64 2])∧∀ R,Inv R w→Ev R w R w':=by
 have H:=Lib.hid (fun w' v=>gof_nil w' v)
 go_enter Try.func30,Try.ntmps30
 go_wp2_with fail
 refine (H.out _ _).mono ?_
 rintro e w' ⟨rfl,rfl⟩
 go_wp2_with fail
 go_ret2
 exact⟨rfl,fun R h=>(Ev.refl h).alloc _⟩
theorem flip_nil (w:World) (d:Int):Calls Try.prog 31 #[.pointer none,.int .i64 d] w fun e w'=>e=.returned (.tuple #[.pointer none,.int .i64 2])∧∀ R,Inv R w→Ev R w R w':=by
 have H:=Lib.hid (fun w' v=>gof_nil w' v)
 go_enter Try.func31,Try.ntmps31
 go_wp2_with fail
 refine (H.out _ _).mono ?_
 rintro e w' ⟨rfl,rfl⟩
 go_wp2_with fail
 go_ret2
 exact⟨rfl,fun R h=>(Ev.refl h).alloc _⟩
theorem chord_nil (w:World) (d d':Int):Calls Try.prog 28 #[.pointer none,.int .i64 d,.int .i64 d'] w fun e w'=>e=.returned (.tuple #[.pointer none,.int .i64 2])∧∀ R,Inv R w→Ev R w R w':=by
 have H:=Lib.hid (fun w' v=>gof_nil w' v)
 go_enter Try.func28,Try.ntmps28
 go_wp2_with fail
 refine (H.out _ _).mono ?_
 rintro e w' ⟨rfl,rfl⟩
 go_wp2_with fail
 go_ret2
 exact⟨rfl,fun R h=>(Ev.refl h).alloc _⟩
def wayR (n way:Nat) (d e:Int):Bool:=match way with|1=>inR n d && inR n e|_=>inR n d
noncomputable def wayB (s:List Nat) (way:Nat) (d e:Int):Bool:=match way with|1=>decide (nameI (phiL s) (atI s d)=nameI (phiL s) (atI s e))|4=>flipB s d.toNat|_=>true
def wayL (s:List Nat) (way:Nat) (d e:Int):List Nat:=match way with|0=>leafL s d.toNat|1=>chordL s d.toNat e.toNat|2=>splitL s d.toNat|3=>starL s d.toNat|_=>flipL s d.toNat
theorem WayPost.two {R:Reg} {w w':World} {a b:Bool} {L:List Nat} {root lone:Int} {e:Ending} (k:WayPost R w a b L root lone e w'):∃ q c,e=.returned (.tuple #[q,.int .i64 c]):=by
 rcases k with ⟨_,h,_⟩|⟨_,_,h,_⟩|⟨_,_,h⟩
 ·exact⟨_,_,h⟩
 ·exact⟨_,_,h⟩
 ·exact h.two
theorem do_nil (w:World) (way:Nat) (hw:way<5) (d d':Int):Calls Try.prog 7 #[.pointer none,.int .i64 (way:Int),.int .i64 d,.int .i64 d'] w fun e w'=>e=.returned (.tuple #[.pointer none,.int .i64 2])∧∀ R,Inv R w→Ev R w R w':=by
 have H0:=Lib.hid (fun w'=>leaf_nil w' d)
 have H1:=Lib.hid (fun w'=>chord_nil w' d d')
 have H2:=Lib.hid (fun w'=>split_nil w' d)
 have H3:=Lib.hid (fun w'=>star_nil w' d)
 have H4:=Lib.hid (fun w'=>flip_nil w' d)
 have hc:way=0∨way=1∨way=2∨way=3∨way=4:=by omega
 go_enter Try.func7,Try.ntmps7
 rcases hc with rfl|rfl|rfl|rfl|rfl
 ·go_wp2_with fail
  refine (H0.out _).mono ?_
  rintro e w' ⟨rfl,he⟩
  go_wp2_with fail
  go_ret2
  exact⟨rfl,he⟩
 ·go_wp2_with fail
  refine (H1.out _).mono ?_
  rintro e w' ⟨rfl,he⟩
  go_wp2_with fail
  go_ret2
  exact⟨rfl,he⟩
 ·go_wp2_with fail
  refine (H2.out _).mono ?_
  rintro e w' ⟨rfl,he⟩
  go_wp2_with fail
  go_ret2
  exact⟨rfl,he⟩
 ·go_wp2_with fail
  refine (H3.out _).mono ?_
  rintro e w' ⟨rfl,he⟩
  go_wp2_with fail
  go_ret2
  exact⟨rfl,he⟩
 ·go_wp2_with fail
  refine (H4.out _).mono ?_
  rintro e w' ⟨rfl,he⟩
  go_wp2_with fail
  go_ret2
  exact⟨rfl,he⟩
theorem do_any (R:Reg) (w:World) (hI:Inv R w) (p:Value) (s:List Nat) (root lone:Int) (hp:MapAt R p s root lone) (way:Nat) (hw:way<5) (d d':Int):
  Calls Try.prog 7 #[p,.int .i64 (way:Int),.int .i64 d,.int .i64 d'] w (WayPost R w (wayR s.length way d d') (wayB s way d d') (wayL s way d d') root lone):=by
 have H0:=Lib.hid (leaf_any R w hI p s root lone hp d)
 have H1:=Lib.hid (chord_any R w hI p s root lone hp d d')
 have H2:=Lib.hid (split_any R w hI p s root lone hp d)
 have H3:=Lib.hid (star_any R w hI p s root lone hp d)
 have H4:=Lib.hid (flip_any R w hI p s root lone hp d)
 have hc:way=0∨way=1∨way=2∨way=3∨way=4:=by omega
 clear hI hp
 go_enter Try.func7,Try.ntmps7
 rcases hc with rfl|rfl|rfl|rfl|rfl
 ·go_wp2_with fail
  refine H0.out.mono ?_
  rintro e w' hpo
  obtain⟨q,c,rfl⟩:=hpo.two
  have HPo:=Lib.hid hpo
  clear hpo
  go_wp2_with fail
  go_ret2
  exact HPo.out
 ·go_wp2_with fail
  refine H1.out.mono ?_
  rintro e w' hpo
  obtain⟨q,c,rfl⟩:=hpo.two
  have HPo:=Lib.hid hpo
  clear hpo
  go_wp2_with fail
  go_ret2
  exact HPo.out
 ·go_wp2_with fail
  refine H2.out.mono ?_
  rintro e w' hpo
  obtain⟨q,c,rfl⟩:=hpo.two
  have HPo:=Lib.hid hpo
  clear hpo
  go_wp2_with fail
  go_ret2
  exact HPo.out
 ·go_wp2_with fail
  refine H3.out.mono ?_
  rintro e w' hpo
  obtain⟨q,c,rfl⟩:=hpo.two
  have HPo:=Lib.hid hpo
  clear hpo
  go_wp2_with fail
  go_ret2
  exact HPo.out
 ·go_wp2_with fail
  refine H4.out.mono ?_
  rintro e w' hpo
  obtain⟨q,c,rfl⟩:=hpo.two
  have HPo:=Lib.hid hpo
  clear hpo
  go_wp2_with fail
  go_ret2
  exact HPo.out
theorem ok01:MapOk [0,1] 0 0:=by unfold MapOk;simp
theorem seed_any (R:Reg) (w:World) (hI:Inv R w):Calls Try.prog 23 #[] w fun e w'=>∃ p R',e=.returned p∧Ev R w R' w'∧MapAt R' p [0,1] 0 0:=by
 have H1:=Lib.hid (new_yes R _ (hI.alloc _) _ [0,1] (FreeI.two hI 0 1) 0 0 perm01 ok01)
 have HE:=Lib.hid ((Ev.refl hI).alloc (.cells #[.int .i64 0,.int .i64 1] 3))
 clear hI
 go_enter Try.func23,Try.ntmps23
 go_wp2_with fail
 refine H1.out.mono ?_
 rintro e w2 ⟨p,R2,rfl,he2,hp⟩
 have HE2:=Lib.hid (HE.out.trans he2)
 have HP:=Lib.hid hp
 clear he2 hp
 go_wp2_with fail
 go_ret
 exact⟨p,R2,rfl,HE2.out,HP.out⟩
theorem leaf01:leafL [0,1] 0=[2,1,0,3]:=by decide
theorem perm2103:IsPerm [2,1,0,3]:=⟨by decide,by decide⟩
theorem sizes2103:(sizesL [2,1,0,3]).length=3:=by decide +kernel
set_option maxRecDepth 100000 in
set_option maxHeartbeats 1000000 in
theorem awake23_any (R:Reg) (w:World) (hI:Inv R w):Calls Try.prog 5 #[] w (RetTrue R w):=by
 have HSd:=Lib.hid (seed_any R w hI)
 clear hI
 go_enter Try.func5,Try.ntmps5
 go_wp2_with fail
 refine HSd.out.mono ?_
 rintro e w1 ⟨p,R1,rfl,he1,hp1⟩
 have HE1:=Lib.hid he1
 have HL:=Lib.hid (leaf_any R1 w1 he1.inv p [0,1] 0 0 hp1 0)
 clear he1 hp1
 go_wp2_with fail
 refine HL.out.mono ?_
 rintro e w2 (⟨h,_⟩|⟨_,h,_⟩|⟨_,_,hk⟩)
 ·exact absurd h (by decide)
 ·cases h
 ·have hk2:NewPost R1 w1 (toI [2,1,0,3]) 0 0 e w2:=by
   have e1:leafL [0,1] (0:Int).toNat=[2,1,0,3]:=leaf01
   rw[←e1];exact hk
  rcases hk2 with ⟨h,_⟩|⟨_,S,q,R2,_,hS,_,rfl,he2,hq⟩
  ·exact absurd (newErr_ok perm2103 (by unfold MapOk;simp)) h
  ·have:=toI_inj hS
   subst this
   have HE2:=Lib.hid (HE1.out.trans he2)
   have HEd:=Lib.hid (edges_any R2 w2 he2.inv q _ 0 0 hq)
   have hv:=vertices_any R2 w2 he2.inv q _ 0 0 hq
   rw[sizes2103] at hv
   have HV:=Lib.hid hv
   clear hk hS he2 hq hv HL HSd
   go_wp2_with fail
   refine HEd.out.mono ?_
   rintro e w' ⟨rfl,rfl⟩
   go_wp2_with fail
   refine HV.out.mono ?_
   rintro e w3 ⟨rfl,R3,he3⟩
   have HE3:=Lib.hid (HE2.out.trans he3)
   clear he3
   go_wp2_with fail
   go_ret
   exact⟨by first|rfl|simp,R3,HE3.out⟩
end
section
set_option linter.unusedVariables false
theorem starL_grown {s:List Nat} (hs:IsPerm s) (hes:s.length % 2=0) {d:Nat} (hd:d<s.length):GrownL s (starL s d) 1 ((orbitL (phiL s) d).length-1)∧(orbitL (phiL s) d).length≤s.length:=by
 obtain⟨k1,k2,k3,_⟩:=star_face hs hes hd rfl
 have h:=star_grown hs hes hd rfl
 unfold starL
 rw[starGo_eq hs k1 k2 _ (Nat.le_refl _),stG_all k3]
 refine⟨h,?_⟩
 have:=List.Nodup.length_le_of_subset k1 (l₂:=List.range s.length) (fun x hx=>List.mem_range.2 (k2 x hx))
 simpa using this
end
section
set_option linter.unusedVariables false
def FaceB (s:List Nat) (F:Nat):Prop:=∀ x,x<s.length→(orbitL (phiL s) x).length≤F
theorem sub_len {l m:List Nat} (h:l.Nodup) (hs:∀ x,x∈l→x∈m):l.length≤m.length:=List.Nodup.length_le_of_subset h hs
theorem orb_le {T:List Nat} (hT:IsPerm T) {x:Nat} (hx:x<T.length):(orbitL T x).length≤T.length:=by
 have:=sub_len (m:=List.range T.length) (orbitL_nodup hT hx) fun y hy=>List.mem_range.2 (orbitL_lt hT hx y hy)
 simpa using this
theorem faceB_all {s:List Nat} (hs:IsPerm s) (hes:s.length % 2=0):FaceB s s.length:=fun x hx=>by
 have:=orb_le (phiL_perm hs hes) (x:=x) (by rw[phiL_length];exact hx)
 rwa [phiL_length] at this
theorem orb_cls {T:List Nat} (hT:IsPerm T) {n F:Nat} (hl:T.length=n+2) (v:Nat→Int) (hv:∀ x,x<T.length→v (at' T x)=v x) (hF:∀ c,∃ l:List Nat,l.length≤F∧∀ y,y<n→v y=c→y∈l) {x:Nat} (hx:x<T.length):(orbitL T x).length≤F+2:=by
 obtain⟨l,h1,h2⟩:=hF (v x)
 have go:∀ j,v (it T j x)=v x:=by
  intro j
  induction j with
  | zero=>rfl
  | succ j ih=>
   have:it T (j+1) x=at' T (it T j x):=by rw[it_itf,it_itf,itf_succ]
   rw[this,hv _ (hT.it_lt hx j),ih]
 have hs:(orbitL T x).length≤(n :: (n+1) :: l).length:=sub_len (orbitL_nodup hT hx) fun y hy=>by
  obtain⟨j,rfl⟩:=(hT.mem_orbit hx).1 hy
  have hlt:=hT.it_lt hx j
  by_cases c:it T j x<n
  ·exact List.mem_cons_of_mem _ (List.mem_cons_of_mem _ (h2 _ c (go j)))
  ·rcases (by omega:it T j x=n∨it T j x=n+1) with e|e
   ·rw[e];exact List.mem_cons_self ..
   ·rw[e];exact List.mem_cons_of_mem _ (List.mem_cons_self ..)
 simp only[List.length_cons] at hs
 omega
theorem three_len {T:List Nat} (hT:IsPerm T) {x:Nat} (hx:x<T.length) {a b c:Nat} (hm:x=a∨x=b∨x=c) (ha:at' T a=b∨at' T a=c∨at' T a=a) (hb:at' T b=b∨at' T b=c∨at' T b=a) (hc:at' T c=b∨at' T c=c∨at' T c=a):(orbitL T x).length≤3:=by
 have go:∀ j,it T j x=a∨it T j x=b∨it T j x=c:=by
  intro j
  induction j with
  | zero=>exact hm
  | succ j ih=>
   have:it T (j+1) x=at' T (it T j x):=by rw[it_itf,it_itf,itf_succ]
   rw[this]
   rcases ih with e|e|e
   ·rw[e];rcases ha with h|h|h
    ·exact Or.inr (Or.inl h)
    ·exact Or.inr (Or.inr h)
    ·exact Or.inl h
   ·rw[e];rcases hb with h|h|h
    ·exact Or.inr (Or.inl h)
    ·exact Or.inr (Or.inr h)
    ·exact Or.inl h
   ·rw[e];rcases hc with h|h|h
    ·exact Or.inr (Or.inl h)
    ·exact Or.inr (Or.inr h)
    ·exact Or.inl h
 exact sub_len (m:=[a,b,c]) (orbitL_nodup hT hx) fun y hy=>by
  obtain⟨j,rfl⟩:=(hT.mem_orbit hx).1 hy
  rcases go j with e|e|e <;> rw[e] <;> simp
section
variable {s : List Nat} (hs : IsPerm s) (hes : s.length % 2 = 0)
include hs hes
theorem cls_face {F:Nat} (h:FaceB s F) (c:Int):∃ l:List Nat,l.length≤F∧∀ y,y<s.length→nth (namesL (phiL s)) y=c→y∈l:=by
 have hp:=phiL_perm hs hes
 have hpl:=phiL_length s
 by_cases hc:∃ y,y<s.length∧nth (namesL (phiL s)) y=c
 ·obtain⟨y,hy,e⟩:=hc
  refine⟨orbitL (phiL s) y,h y hy,fun z hz ez=>?_⟩
  exact (names_orbit hp (by rw[hpl];exact hy)).2 ⟨by rw[hpl];exact hz,by rw[ez,e]⟩
 ·exact⟨[],Nat.zero_le _,fun y hy e=>absurd ⟨y,hy,e⟩ hc⟩
theorem names_face {x:Nat} (hx:x<s.length):nth (namesL (phiL s)) (at' (phiL s) x)=nth (namesL (phiL s)) x:=
 names_turn (phiL_perm hs hes) (by rw[phiL_length];exact hx)
theorem faceB_two {t:List Nat} {F:Nat} (h:FaceB s F) (ht:IsPerm t) (hl:t.length=s.length+2) (c0 c1:Int)
  (h0:∀ y,y<s.length→at' (phiL t) y=at' (phiL s) y∨(at' (phiL t) y=s.length∧nth (namesL (phiL s)) y=c0)∨(at' (phiL t) y=s.length+1∧nth (namesL (phiL s)) y=c1))
  (h1:(at' (phiL t) s.length<s.length∧nth (namesL (phiL s)) (at' (phiL t) s.length)=c0)∨(at' (phiL t) s.length=s.length+1∧c0=c1))
  (h2:(at' (phiL t) (s.length+1)<s.length∧nth (namesL (phiL s)) (at' (phiL t) (s.length+1))=c1)∨(at' (phiL t) (s.length+1)=s.length∧c0=c1)∨(at' (phiL t) (s.length+1)=s.length+1)):FaceB t (F+2):=by
 have hp:=phiL_perm ht (by omega)
 have hpl:=phiL_length t
 have hps:=phiL_perm hs hes
 have hpls:=phiL_length s
 intro x hx
 obtain⟨v,hv⟩:∃ v:Nat→Int,v=fun y=>if y<s.length then nth (namesL (phiL s)) y else if y=s.length then c0 else c1:=⟨_,rfl⟩
 have v0:∀ y,y<s.length→v y=nth (namesL (phiL s)) y:=fun y hy=>by rw[hv];exact if_pos hy
 have v1:v s.length=c0:=by rw[hv];show (if _ then _ else if _ then _ else _)=_;rw[if_neg (Nat.lt_irrefl _),if_pos rfl]
 have v2:v (s.length+1)=c1:=by rw[hv];show (if _ then _ else if _ then _ else _)=_;rw[if_neg (by omega),if_neg (by omega)]
 refine orb_cls hp (n:=s.length) (by rw[hpl,hl]) v (fun y hy=>?_) (fun c=>?_) (by rw[hpl];exact hx)
 ·rw[hpl,hl] at hy
  rcases (by omega:y<s.length∨y=s.length∨y=s.length+1) with e|e|e
  ·rw[v0 y e]
   rcases h0 y e with h|⟨h,h'⟩|⟨h,h'⟩
   ·have:=hps.lt (i:=y) (by rw[hpls];exact e)
    rw[hpls] at this
    rw[h,v0 _ this]
    exact names_face hs hes e
   ·rw[h,v1,h']
   ·rw[h,v2,h']
  ·rw[e,v1]
   rcases h1 with ⟨h,h'⟩|⟨h,h'⟩
   ·rw[v0 _ h,h']
   ·rw[h,v2,h']
  ·rw[e,v2]
   rcases h2 with ⟨h,h'⟩|⟨h,h'⟩|h
   ·rw[v0 _ h,h']
   ·rw[h,v1,h']
   ·rw[h,v2]
 ·obtain⟨l,h3,h4⟩:=cls_face hs hes h c
  exact⟨l,h3,fun y hy e=>h4 y hy (by rw[←v0 y hy];exact e)⟩
theorem leaf_faceB {F d:Nat} (h:FaceB s F) (hd:d<s.length) (ht:IsPerm (leafL s d)):FaceB (leafL s d) (F+2):=by
 obtain⟨e,h2⟩:∃ e,s.length=2*e:=⟨s.length / 2,by omega⟩
 have hl:=leafL_length s d
 have hdm:=xor_one_lt hes hd
 have ph:∀ y,y<s.length+2→at' (phiL (leafL s d)) y=at' (leafL s d) (y ^^^ 1):=fun y hy=>phiL_at (by rw[hl];exact hy)
 have x0:s.length ^^^ 1=s.length+1:=xor_add (n:=s.length) (k:=0) hes (by omega)
 have x1:(s.length+1) ^^^ 1=s.length:=xor_add (n:=s.length) (k:=1) hes (by omega)
 have key:at' s d=at' (phiL s) (d ^^^ 1):=by rw[phiL_at hdm,xor_one_one]
 refine faceB_two hs hes h ht hl (nth (namesL (phiL s)) (at' s d)) (nth (namesL (phiL s)) (at' s d)) (fun y hy=>?_) ?_ ?_
 ·have hym:=xor_one_lt hes hy
  rw[ph y (by omega),leaf_low h2 hd hym,phiL_at hy]
  by_cases c:y ^^^ 1=d
  ·refine Or.inr (Or.inl ⟨by rw[if_pos c,h2],?_⟩)
   rw[←c,←phiL_at hy]
   exact (names_face hs hes hy).symm
  ·exact Or.inl (if_neg c)
 ·refine Or.inr ⟨?_,rfl⟩
  rw[ph _ (by omega),x0,h2]
  exact leaf_n1 h2 hd
 ·refine Or.inl ?_
  rw[ph _ (by omega),x1,h2,leaf_n h2 hd,←h2]
  exact⟨hs.lt hd,rfl⟩
theorem chord_faceB {F d f:Nat} (h:FaceB s F) (hd:d<s.length) (hf:f<s.length) (hn:nth (namesL (phiL s)) (at' s d)=nth (namesL (phiL s)) (at' s f)) (ht:IsPerm (chordL s d f)):FaceB (chordL s d f) (F+2):=by
 obtain⟨e,h2⟩:∃ e,s.length=2*e:=⟨s.length / 2,by omega⟩
 have hl:=chord_length s d f
 obtain⟨k1,k2,k3⟩:=chord_vals h2 hd hf
 rw[←h2] at k1 k2 k3
 have ph:∀ y,y<s.length+2→at' (phiL (chordL s d f)) y=at' (chordL s d f) (y ^^^ 1):=fun y hy=>phiL_at (by rw[hl];exact hy)
 have x0:s.length ^^^ 1=s.length+1:=xor_add (n:=s.length) (k:=0) hes (by omega)
 have x1:(s.length+1) ^^^ 1=s.length:=xor_add (n:=s.length) (k:=1) hes (by omega)
 refine faceB_two hs hes h ht hl (nth (namesL (phiL s)) (at' s d)) (nth (namesL (phiL s)) (at' s d)) (fun y hy=>?_) ?_ ?_
 ·have hym:=xor_one_lt hes hy
  rw[ph y (by omega),k1 _ hym,phiL_at hy]
  by_cases c:y ^^^ 1=d
  ·refine Or.inr (Or.inl ⟨if_pos c,?_⟩)
   rw[←c,←phiL_at hy]
   exact (names_face hs hes hy).symm
  ·rw[if_neg c]
   by_cases c2:y ^^^ 1=f
   ·refine Or.inr (Or.inr ⟨if_pos c2,?_⟩)
    rw[hn,←c2,←phiL_at hy]
    exact (names_face hs hes hy).symm
   ·exact Or.inl (if_neg c2)
 ·refine Or.inl ?_
  rw[ph _ (by omega),x0]
  by_cases c:d=f
  ·rw[(k2 c).2];exact⟨hs.lt hd,rfl⟩
  ·rw[(k3 c).2];exact⟨hs.lt hf,hn.symm⟩
 ·rw[ph _ (by omega),x1]
  by_cases c:d=f
  ·exact Or.inr (Or.inr (k2 c).1)
  ·rw[(k3 c).1];exact Or.inl ⟨hs.lt hd,rfl⟩
theorem split_faceB {F d:Nat} (h:FaceB s F) (hd:d<s.length) (ht:IsPerm (splitL s d)):FaceB (splitL s d) (F+2):=by
 have hl:=splitL_length s d
 have hm:=xor_one_lt hes hd
 have at_:=fun {y:Nat} (hy:y<s.length+2)=>split_at hs (rfl:d ^^^ 1=d ^^^ 1) hm hy
 have ph:∀ y,y<s.length+2→at' (phiL (splitL s d)) y=at' (splitL s d) (y ^^^ 1):=fun y hy=>phiL_at (by rw[hl];exact hy)
 have x0:s.length ^^^ 1=s.length+1:=xor_add (n:=s.length) (k:=0) hes (by omega)
 have x1:(s.length+1) ^^^ 1=s.length:=xor_add (n:=s.length) (k:=1) hes (by omega)
 have pd:at' (phiL s) d=at' s (d ^^^ 1):=phiL_at hd
 have nd:=names_face hs hes hd
 have hsm:=hs.lt hm
 obtain⟨m,hme⟩:∃ m,d ^^^ 1=m:=⟨_,rfl⟩
 have hmd:m ^^^ 1=d:=by rw[←hme,xor_one_one]
 rw[hme] at hm at_ pd hsm
 rw[pd] at nd
 refine faceB_two hs hes h ht hl (nth (namesL (phiL s)) d) (nth (namesL (phiL s)) m) (fun y hy=>?_) ?_ ?_
 ·have hym:=xor_one_lt hes hy
  rw[ph y (by omega),at_ (by omega),phiL_at hy]
  by_cases c:y ^^^ 1=m
  ·refine Or.inr (Or.inl ⟨if_pos c,?_⟩)
   have:y=d:=by rw[←hmd,←c,xor_one_one]
   rw[this]
  ·rw[if_neg c,if_neg (by omega),if_neg (by omega)]
   by_cases c2:at' s (y ^^^ 1)=m
   ·refine Or.inr (Or.inr ⟨if_pos c2,?_⟩)
    rw[←phiL_at hy] at c2
    rw[←c2]
    exact (names_face hs hes hy).symm
   ·exact Or.inl (if_neg c2)
 ·rw[ph _ (by omega),x0,at_ (by omega),if_neg (by omega),if_neg (by omega),if_pos rfl]
  by_cases c:at' s m=m
  ·rw[if_pos c]
   rw[c] at nd
   exact Or.inr ⟨rfl,nd.symm⟩
  ·rw[if_neg c]
   exact Or.inl ⟨hsm,nd⟩
 ·rw[ph _ (by omega),x1,at_ (by omega),if_neg (by omega),if_pos rfl]
  exact Or.inl ⟨hm,rfl⟩
theorem same_len {t:List Nat} {P:Nat→Prop} (ht:IsPerm (phiL t)) (hP:∀ y,y<s.length→P y→at' (phiL t) y=at' (phiL s) y∧P (at' (phiL s) y)) {x:Nat} (hx:x<s.length) (hxt:x<t.length) (h:P x):(orbitL (phiL t) x).length≤(orbitL (phiL s) x).length:=by
 have hp:=phiL_perm hs hes
 have hpl:=phiL_length s
 have go:∀ j,it (phiL t) j x=it (phiL s) j x∧P (it (phiL s) j x):=by
  intro j
  induction j with
  | zero=>exact⟨rfl,h⟩
  | succ j ih=>
   have e1:it (phiL t) (j+1) x=at' (phiL t) (it (phiL t) j x):=by rw[it_itf,it_itf,itf_succ]
   have e2:it (phiL s) (j+1) x=at' (phiL s) (it (phiL s) j x):=by rw[it_itf,it_itf,itf_succ]
   have hlt:=hp.it_lt (i:=x) (by rw[hpl];exact hx) j
   rw[hpl] at hlt
   obtain⟨a,b⟩:=hP _ hlt ih.2
   rw[e1,e2,ih.1,a]
   exact⟨rfl,b⟩
 refine sub_len (orbitL_nodup ht (by rw[phiL_length];exact hxt)) fun y hy=>?_
 obtain⟨j,rfl⟩:=(ht.mem_orbit (by rw[phiL_length];exact hxt)).1 hy
 rw[(go j).1]
 exact (hp.mem_orbit (by rw[hpl];exact hx)).2 ⟨j,rfl⟩
theorem star_faceB {F d:Nat} (hF:3≤F) (h:FaceB s F) (hd:d<s.length):FaceB (starC s (orbitL (phiL s) d)) F:=by
 obtain⟨k1,k2,k3,k4,k5,_⟩:=star_face hs hes hd rfl
 have hg:=star_grown hs hes hd rfl
 have he:=fun {j} (hj:j<(orbitL (phiL s) d).length)=>star_phi_edge hs hes hd rfl hj
 have hold:=fun {y} (hy:y<s.length) (ho:y∉orbitL (phiL s) d)=>star_phi_old hs hes hd rfl hy ho
 obtain⟨O,hO⟩:∃ O,orbitL (phiL s) d=O:=⟨_,rfl⟩
 rw[hO] at k1 k2 k3 k4 k5 hg he hold ⊢
 have hl:=starC_length s O
 have hpt:=phiL_perm hg.perm hg.even
 have hin:=fun {j} (hj:j<O.length)=>star_phi_in (s:=s) (O:=O) hes (j:=j) hj
 have hout:=fun {j} (hj:j<O.length)=>star_phi_out (s:=s) (O:=O) hes (j:=j) hj
 have tri:∀ j,j<O.length→∀ x,x<(starC s O).length→(x=at' O j∨x=s.length+2*nextI O.length j∨x=s.length+2*j+1)→(orbitL (phiL (starC s O)) x).length≤F:=fun j hj x hx hm=>
  Nat.le_trans (three_len hpt (by rw[phiL_length];exact hx) hm (Or.inl (he hj)) (Or.inr (Or.inl (hin hj))) (Or.inr (Or.inr (hout hj)))) hF
 intro x hx
 by_cases c:x<s.length
 ·by_cases cm:x∈O
  ·have hi:=List.idxOf_lt_length_iff.2 cm
   exact tri _ hi x hx (Or.inl (by rw[at'_eq hi];exact (List.getElem_idxOf hi).symm))
  ·exact Nat.le_trans (same_len hs hes hpt (P:=fun y=>y∉O) (fun y hy hn=>⟨hold hy hn,fun e=>hn ((k5 y hy).1 e)⟩) c hx cm) (h x c)
 ·rw[hl] at hx
  by_cases c2:(x-s.length) % 2=0
  ·have hk:(x-s.length) / 2<O.length:=by omega
   obtain⟨j,hj,e⟩:∃ j,j<O.length∧nextI O.length j=(x-s.length) / 2:=by
    unfold nextI
    by_cases z:(x-s.length) / 2=0
    ·exact⟨O.length-1,by omega,by rw[if_neg (by omega),z]⟩
    ·exact⟨(x-s.length) / 2-1,by omega,by rw[if_pos (by omega)];omega⟩
   exact tri j hj x (by rw[hl];exact hx) (Or.inr (Or.inl (by rw[e];omega)))
  ·exact tri ((x-s.length) / 2) (by omega) x (by rw[hl];exact hx) (Or.inr (Or.inr (by omega)))
theorem flip_faceB {F d m pd pa pm pb:Nat} (hF:3≤F) (h:FaceB s F) (hf:FlipD s d m pd pa pm pb):FaceB (flipL s d) F:=by
 obtain⟨n1,n2,n3,n4,n5,n6,n7,n8,n9,n10,n11,n12,n13,n14,n15⟩:=FlipD.ne hf
 have hg:=hf.grown hs hes
 have hl:=flipL_length s d
 have hpt:=phiL_perm hg.perm hg.even
 have hph:=fun {y:Nat} (hy:y<s.length)=>hf.phi hs hes hy
 have vd:at' (phiL (flipL s d)) d=pb:=by rw[hph hf.dl,if_neg n4,if_pos rfl]
 have vpb:at' (phiL (flipL s d)) pb=pd:=by rw[hph hf.pbl,if_neg (Ne.symm n15),if_neg (Ne.symm n5),if_neg (Ne.symm n9),if_neg (Ne.symm n14),if_neg (Ne.symm n12),if_pos rfl]
 have vpd:at' (phiL (flipL s d)) pd=d:=by rw[hph hf.pdl,if_neg n8,if_neg (Ne.symm n1),if_pos rfl]
 have vm:at' (phiL (flipL s d)) m=pa:=by rw[hph hf.ml,if_neg n13,if_neg (Ne.symm n3),if_neg (Ne.symm n7),if_pos rfl]
 have vpa:at' (phiL (flipL s d)) pa=pm:=by rw[hph hf.pal,if_neg n11,if_neg (Ne.symm n2),if_neg (Ne.symm n6),if_neg n10,if_pos rfl]
 have vpm:at' (phiL (flipL s d)) pm=m:=by rw[hph hf.pml,if_pos rfl]
 intro x hx
 have hxp:x<(phiL (flipL s d)).length:=by rw[phiL_length];exact hx
 rw[hl] at hx
 by_cases c1:x=d∨x=pb∨x=pd
 ·exact Nat.le_trans (three_len hpt hxp c1 (Or.inl vd) (Or.inr (Or.inl vpb)) (Or.inr (Or.inr vpd))) hF
 by_cases c2:x=m∨x=pa∨x=pm
 ·exact Nat.le_trans (three_len hpt hxp c2 (Or.inl vm) (Or.inr (Or.inl vpa)) (Or.inr (Or.inr vpm))) hF
 refine Nat.le_trans (same_len hs hes hpt (P:=fun y=>¬ (y=d∨y=pb∨y=pd)∧¬ (y=m∨y=pa∨y=pm)) (fun y hy hn=>?_) hx (by rw[hl];exact hx) ⟨c1,c2⟩) (h x hx)
 obtain⟨u1,u2⟩:=hn
 simp only[not_or] at u1 u2
 have inj:∀ {a b},b<s.length→at' (phiL s) b=a→y≠b→at' (phiL s) y≠a:=fun {a b} hb e ne e'=>ne ((phiL_perm hs hes).inj (by rw[phiL_length];exact hy) (by rw[phiL_length];exact hb) (by rw[e',e]))
 refine⟨by rw[hph hy,if_neg u2.2.2,if_neg u1.1,if_neg u1.2.2,if_neg u2.1,if_neg u2.2.1,if_neg u1.2.1],?_⟩
 simp only[not_or]
 exact⟨⟨inj hf.pal hf.fpa u2.2.1,inj hf.pml hf.fpm u2.2.2,inj hf.dl hf.fd u1.1⟩,inj hf.pbl hf.fpb u1.2.1,inj hf.pdl hf.fpd u1.2.2,inj hf.ml hf.fm u2.1⟩
end
end
section
set_option linter.unusedVariables false
theorem way_err {s:List Nat} (hs:IsPerm s) {root lone:Int} (hok:MapOk s root lone) (hl:s.length≤20000) {k:Nat} (hk:k<5) {d e:Int} (h1:wayR s.length k d e=true) (h2:wayB s k d e=true):newErr (toI (wayL s k d e)) root lone=0:=by
 have he:=hok.1
 have hnat:∀ {x:Int},inR s.length x=true→∃ n:Nat,x=(n:Int)∧n<s.length:=fun {x} h=>by
  unfold inR at h
  have:=of_decide_eq_true h
  exact⟨x.toNat,by omega,by omega⟩
 have hgr:∃ v f,GrownL s (wayL s k d e) v f∧0≤v+f∧v+f≤20000∧0<s.length:=by
  rcases (by omega:k=0∨k=1∨k=2∨k=3∨k=4) with rfl|rfl|rfl|rfl|rfl
  ·obtain⟨D,rfl,hd⟩:=hnat h1
   exact⟨1,0,leaf_grown hs he hd,by decide,by decide,by omega⟩
  ·have h1':(inR s.length d && inR s.length e)=true:=h1
   rw[Bool.and_eq_true] at h1'
   obtain⟨D,rfl,hd⟩:=hnat h1'.1
   obtain⟨E,rfl,he'⟩:=hnat h1'.2
   have h3:nameI (phiL s) (atI s (D:Int))=nameI (phiL s) (atI s (E:Int)):=of_decide_eq_true h2
   rw[atI_in hd,atI_in he',nameI_in (by rw[phiL_length];exact hs.lt hd),nameI_in (by rw[phiL_length];exact hs.lt he')] at h3
   exact⟨0,1,chord_grown hs he hd he' h3,by decide,by decide,by omega⟩
  ·obtain⟨D,rfl,hd⟩:=hnat h1
   exact⟨1,0,split_grown hs he rfl hd,by decide,by decide,by omega⟩
  ·obtain⟨D,rfl,hd⟩:=hnat h1
   have h:=starL_grown hs he hd
   exact⟨1,_,h.1,by omega,by omega,by omega⟩
  ·obtain⟨D,rfl,hd⟩:=hnat h1
   have h3:flipB s D=true:=h2
   unfold flipB at h3
   have hm:=xor_one_lt he hd
   rw[orbI_in (by rw[phiL_length];exact hd),orbI_in (by rw[phiL_length];exact hm),nameI_in (by rw[phiL_length];exact hd),nameI_in (by rw[phiL_length];exact hm),toI_length,toI_length] at h3
   simp only[Bool.and_eq_true,decide_eq_true_eq,Bool.not_eq_true',decide_eq_false_iff_not] at h3
   obtain⟨m,pd,pa,pm,pb,hF⟩:=flipD_of hs he hd h3.1.1.1.1 h3.1.1.1.2 h3.1.1.2 h3.1.2 h3.2
   exact⟨0,0,FlipD.grown hs he hF,by decide,by decide,by omega⟩
 obtain⟨v,f,hgr,hvf,hvf2,h0⟩:=hgr
 have hes:=hgr.es
 have hev:=hgr.even
 obtain⟨o1,o2,o3,o4,o5⟩:=hok
 exact newErr_ok hgr.perm ⟨hev,by omega,o3,o4,Or.inr (by omega)⟩
end
section
set_option linter.unusedVariables false
theorem starL_eq {s:List Nat} (hs:IsPerm s) (hes:s.length % 2=0) {d:Nat} (hd:d<s.length):starL s d=starC s (orbitL (phiL s) d):=by
 obtain⟨k1,k2,k3,_⟩:=star_face hs hes hd rfl
 unfold starL
 rw[starGo_eq hs k1 k2 _ (Nat.le_refl _),stG_all k3]
theorem flipB_D {s:List Nat} (hs:IsPerm s) (hes:s.length % 2=0) {d:Nat} (hd:d<s.length) (h:flipB s d=true):∃ m pd pa pm pb,FlipD s d m pd pa pm pb:=by
 have hm:=xor_one_lt hes hd
 unfold flipB at h
 rw[nameI_in (by rw[phiL_length];exact hd),nameI_in (by rw[phiL_length];exact hm)] at h
 simp only[Bool.and_eq_true,decide_eq_true_eq,Bool.not_eq_true',decide_eq_false_iff_not] at h
 obtain⟨⟨⟨⟨h1,h2⟩,h3⟩,h4⟩,h5⟩:=h
 rw[orbI_in (by rw[phiL_length];exact hd),toI_length] at h1
 rw[orbI_in (by rw[phiL_length];exact hm),toI_length] at h2
 exact flipD_of hs hes hd h1 h2 h3 h4 h5
end
end Go.Proofs.Ytklkgicjfnbndaa
