/- Lists of darts told by a function: a dart put behind another one, a dart taken out, one row more. -/
import Derived.Test.YtklkgicjfnbndaaZGrowKeeps29
import Derived.Test.YtklkgicjfnbndaaZGrowKeeps26
import Derived.Test.YtklkgicjfnbndaaZGrowKeeps32
namespace Go.Proofs.Ytklkgicjfnbndaa
section
set_option linter.unusedVariables false
def Ch (f:Nat→Nat):Nat→List Nat→Nat→Prop
 | a,[],b=>f a=b
 | a,x :: l,b=>f a=x∧Ch f x l b
theorem Ch.app {f:Nat→Nat} {x:Nat} {m:List Nat} {b:Nat}:∀ {l:List Nat} {a:Nat},Ch f a (l ++ x :: m) b↔Ch f a l x∧Ch f x m b
 | [],a=>Iff.rfl
 | y :: l,a=>by
  show (f a=y∧Ch f y (l ++ x :: m) b)↔(f a=y∧Ch f y l x)∧_
  rw[Ch.app,and_assoc]
theorem Ch.iff {f:Nat→Nat} {b:Nat}:∀ {l:List Nat} {a:Nat},Ch f a l b↔∀ j,j<l.length+1→f (at' (a :: l) j)=if j<l.length then at' (a :: l) (j+1) else b
 | [],a=>by
  constructor
  ·intro h j hj
   obtain rfl:j=0:=by simp at hj;exact hj
   exact h
  ·intro h;exact h 0 (by simp)
 | x :: l,a=>by
  constructor
  ·rintro⟨h1,h2⟩ j hj
   cases j with
   | zero=>rw[if_pos (by simp)];exact h1
   | succ j=>
    have h3:=Ch.iff.1 h2 j (by simp at hj ⊢;omega)
    have e:(if j+1<(x :: l).length then at' (a :: x :: l) (j+1+1) else b)=if j<l.length then at' (x :: l) (j+1) else b:=by
     by_cases h:j<l.length
     ·rw[if_pos h,if_pos (by simp;omega)];rfl
     ·rw[if_neg h,if_neg (by simp;omega)]
    rw[e,←h3];rfl
  ·intro h
   refine⟨?_,Ch.iff.2 fun j hj=>?_⟩
   ·have:=h 0 (by simp)
    rw[if_pos (by simp)] at this
    exact this
   ·have h3:=h (j+1) (by simp;omega)
    have e:(if j+1<(x :: l).length then at' (a :: x :: l) (j+1+1) else b)=if j<l.length then at' (x :: l) (j+1) else b:=by
     by_cases h:j<l.length
     ·rw[if_pos h,if_pos (by simp;omega)];rfl
     ·rw[if_neg h,if_neg (by simp;omega)]
    rw[e] at h3
    exact h3
theorem Cy.ch {f:Nat→Nat} {x:Nat} {l:List Nat}:Cy f (x :: l)↔Ch f x l x:=by
 rw[Ch.iff]
 unfold Cy nextI
 constructor
 ·intro h j hj
  rw[h j (by simp;omega)]
  by_cases e:j<l.length
  ·rw[if_pos e,if_pos (by simp;omega)]
  ·rw[if_neg e,if_neg (by simp;omega)];rfl
 ·intro h j hj
  rw[h j (by simpa using hj)]
  by_cases e:j<l.length
  ·rw[if_pos e,if_pos (by simp;omega)]
  ·rw[if_neg e,if_neg (by simp;omega)];rfl
theorem Ch.congr {f g:Nat→Nat} {b:Nat}:∀ {l:List Nat} {a:Nat},Ch f a l b→(∀ y,y∈a :: l→g y=f y)→Ch g a l b
 | [],a,h,hg=>(hg a (List.mem_cons_self ..)).trans h
 | x :: l,a,h,hg=>⟨(hg a (List.mem_cons_self ..)).trans h.1,Ch.congr h.2 fun y hy=>hg y (List.mem_cons_of_mem _ hy)⟩
theorem Ch.vals {f:Nat→Nat} {b:Nat}:∀ {l:List Nat} {a:Nat},Ch f a l b→∀ y,y∈a :: l→f y∈l∨f y=b
 | [],a,h,y,hy=>by
  rw[List.mem_singleton] at hy
  subst hy
  exact Or.inr h
 | x :: l,a,h,y,hy=>by
  rcases List.mem_cons.1 hy with rfl|hy
  ·rw[h.1];exact Or.inl (List.mem_cons_self ..)
  ·rcases Ch.vals h.2 y hy with h3|h3
   ·exact Or.inl (List.mem_cons_of_mem _ h3)
   ·exact Or.inr h3
theorem Ch.last {f g:Nat→Nat} {b c:Nat}:∀ {l:List Nat} {a:Nat},Ch f a l b→b∉l→(∀ y,y∈a :: l→f y≠b→g y=f y)→(∀ y,y∈a :: l→f y=b→g y=c)→Ch g a l c
 | [],a,h,_,_,h2=>h2 a (List.mem_cons_self ..) h
 | x :: l,a,h,hb,h1,h2=>by
  rw[List.mem_cons,not_or] at hb
  refine⟨(h1 a (List.mem_cons_self ..) (by rw[h.1];exact fun e=>hb.1 e.symm)).trans h.1,Ch.last h.2 hb.2 (fun y hy=>h1 y (List.mem_cons_of_mem _ hy)) (fun y hy=>h2 y (List.mem_cons_of_mem _ hy))⟩
def delF (f:Nat→Nat) (d x:Nat):Nat:=if f x=d then f d else f x
theorem Cy.nil (f:Nat→Nat):Cy f []:=fun j hj=>by cases hj
theorem Cy.congr {f g:Nat→Nat} {v:List Nat} (h:Cy f v) (hg:∀ y,y∈v→g y=f y):Cy g v:=fun j hj=>by
 rw[←h j hj]
 exact hg _ (by rw[at'_eq hj];exact List.getElem_mem hj)
theorem Cy.del {f:Nat→Nat} {A B:List Nat} {d:Nat} (h:Cy f (A ++ d :: B)) (hn:(A ++ d :: B).Nodup):Cy (delF f d) (A ++ B):=by
 rw[List.nodup_append] at hn
 obtain⟨n1,n2,n3⟩:=hn
 rw[List.nodup_cons] at n2
 have ne:∀ y,f y≠d→delF f d y=f y:=fun y hy=>by unfold delF;rw[if_neg hy]
 have eq:∀ y,f y=d→delF f d y=f d:=fun y hy=>by unfold delF;rw[if_pos hy]
 cases A with
 | nil=>
  cases B with
  | nil=>exact Cy.nil _
  | cons x B=>
   have h1:=Cy.ch.1 h
   refine Cy.ch.2 (Ch.last h1.2 (fun hm=>n2.1 (List.mem_cons_of_mem _ hm)) (fun y _ hy=>ne y hy) fun y _ hy=>?_)
   rw[eq y hy]
   exact h1.1
 | cons a A=>
  have h1:Ch f a (A ++ d :: B) a:=Cy.ch.1 h
  rw[Ch.app] at h1
  have hda:d∉A:=fun hm=>n3 d (List.mem_cons_of_mem _ hm) d (List.mem_cons_self ..) rfl
  have hdx:d≠a:=fun e=>n3 a (List.mem_cons_self ..) d (List.mem_cons_self ..) e.symm
  cases B with
  | nil=>
   rw[List.append_nil]
   refine Cy.ch.2 (Ch.last h1.1 hda (fun y _ hy=>ne y hy) fun y _ hy=>?_)
   rw[eq y hy]
   exact h1.2
  | cons x B=>
   refine Cy.ch.2 (Ch.app.2 ⟨Ch.last h1.1 hda (fun y _ hy=>ne y hy) fun y _ hy=>?_,Ch.congr h1.2.2 fun y hy=>ne y fun e=>?_⟩)
   ·rw[eq y hy];exact h1.2.1
   ·rcases Ch.vals h1.2.2 y hy with h3|h3
    ·rw[e] at h3;exact n2.1 (List.mem_cons_of_mem _ h3)
    ·exact hdx (e.symm.trans h3)
structure RowsF (xss:List (List Nat)) (D:Nat→Prop) (f:Nat→Nat):Prop where
 nd:xss.flatten.Nodup
 mem:∀ y,y∈xss.flatten↔D y
 next:∀ v,v∈xss→Cy f v
theorem RowsF.congr {xss:List (List Nat)} {D E:Nat→Prop} {f g:Nat→Nat} (h:RowsF xss D f) (hD:∀ y,D y↔E y) (hg:∀ y,D y→g y=f y):RowsF xss E g:=
 ⟨h.nd,fun y=>(h.mem y).trans (hD y),fun v hv=>(h.next v hv).congr fun y hy=>hg y ((h.mem y).1 (List.mem_flatten.2 ⟨v,hv,hy⟩))⟩
theorem outL_flat (f:Nat→List Nat):∀ xss:List (List Nat),(outL f xss).flatten=xss.flatten.flatMap f
 | []=>rfl
 | v :: xss=>by
  show (v.flatMap f :: outL f xss).flatten=_
  rw[List.flatten_cons,outL_flat f xss,List.flatten_cons,List.flatMap_append]
theorem flat_wit (d:Nat):∀ v:List Nat,v.flatMap (witF d)=v.filter (fun x=>decide (x≠d))
 | []=>rfl
 | x :: v=>by
  rw[List.flatMap_cons,flat_wit d v]
  unfold witF
  by_cases h:x=d
  ·rw[if_pos h,List.filter_cons_of_neg (by simp[h])];rfl
  ·rw[if_neg h,List.filter_cons_of_pos (by simp[h])];rfl
theorem RowsF.rowNd {xss:List (List Nat)} {D:Nat→Prop} {f:Nat→Nat} (h:RowsF xss D f) {v:List Nat} (hv:v∈xss):v.Nodup:=(List.sublist_flatten_of_mem hv).nodup h.nd
theorem RowsF.after {xss:List (List Nat)} {D:Nat→Prop} {f:Nat→Nat} (h:RowsF xss D f) {t d:Nat} (ht:D t) (hd:¬ D d):RowsF (outL (aftF t d) xss) (fun y=>D y∨y=d) (insF f t d):=by
 obtain⟨A,B,hAB⟩:=List.append_of_mem ((h.mem t).2 ht)
 have hn:=h.nd
 have hdf:d∉xss.flatten:=fun hm=>hd ((h.mem d).1 hm)
 rw[hAB] at hn hdf
 have hn2:=hn
 rw[List.nodup_append,List.nodup_cons] at hn2
 obtain⟨_,⟨m1,_⟩,m3⟩:=hn2
 have hfl:(outL (aftF t d) xss).flatten=A ++ t :: d :: B:=by
  rw[outL_flat,hAB]
  exact flat_ins (fun hm=>m3 t hm t (List.mem_cons_self ..) rfl) m1
 have hp:(A ++ t :: d :: B).Perm (d :: (A ++ t :: B)):=by
  have:A ++ t :: d :: B=(A ++ [t]) ++ d :: B:=by simp
  rw[this]
  refine List.perm_middle.trans (List.Perm.of_eq ?_)
  simp
 refine⟨?_,fun y=>?_,fun v hv=>?_⟩
 ·rw[hfl,hp.nodup_iff,List.nodup_cons]
  exact⟨hdf,hn⟩
 ·rw[hfl,hp.mem_iff,List.mem_cons,←hAB,h.mem]
  exact or_comm
 ·unfold outL at hv
  obtain⟨u,hu,rfl⟩:=List.mem_map.1 hv
  have hun:=h.rowNd hu
  have hud:d∉u:=fun hm=>hd ((h.mem d).1 (List.mem_flatten.2 ⟨u,hu,hm⟩))
  by_cases htu:t∈u
  ·obtain⟨P,Q,rfl⟩:=List.append_of_mem htu
   have hk:=hun
   rw[List.nodup_append,List.nodup_cons] at hk
   rw[flat_ins (fun hm=>hk.2.2 t hm t (List.mem_cons_self ..) rfl) hk.2.1.1]
   exact (h.next _ hu).ins hun hud
  ·rw[flat_same htu]
   refine (h.next _ hu).congr fun y hy=>?_
   unfold insF
   rw[if_neg (fun (e:y=t)=>htu (by rw[←e];exact hy)),if_neg (fun (e:y=d)=>hud (by rw[←e];exact hy))]
theorem RowsF.without {xss:List (List Nat)} {D:Nat→Prop} {f:Nat→Nat} (h:RowsF xss D f) (d:Nat):RowsF (outL (witF d) xss) (fun y=>D y∧y≠d) (delF f d):=by
 refine⟨?_,fun y=>?_,fun v hv=>?_⟩
 ·rw[outL_flat,flat_wit]
  exact h.nd.sublist List.filter_sublist
 ·rw[outL_flat,flat_wit,List.mem_filter,h.mem]
  simp
 ·unfold outL at hv
  obtain⟨u,hu,rfl⟩:=List.mem_map.1 hv
  have hun:=h.rowNd hu
  rw[flat_wit]
  have key:∀ l:List Nat,d∉l→l.filter (fun x=>decide (x≠d))=l:=fun l hl=>List.filter_eq_self.2 fun x hx=>by
   simp only[decide_eq_true_eq]
   exact fun (e:x=d)=>hl (by rw[←e];exact hx)
  by_cases hdu:d∈u
  ·obtain⟨P,Q,rfl⟩:=List.append_of_mem hdu
   have hk:=hun
   rw[List.nodup_append,List.nodup_cons] at hk
   rw[List.filter_append,List.filter_cons_of_neg (by simp),key P (fun hm=>hk.2.2 d hm d (List.mem_cons_self ..) rfl),key Q hk.2.1.1]
   exact (h.next _ hu).del hun
  ·rw[key u hdu]
   refine (h.next _ hu).congr fun y hy=>?_
   unfold delF
   obtain⟨j,hj,rfl⟩:=List.getElem_of_mem hy
   have hnx:=h.next u hu j hj
   rw[at'_eq hj] at hnx
   have hm:f u[j]∈u:=by
    rw[hnx,at'_eq (by unfold nextI;split <;> omega)]
    exact List.getElem_mem _
   rw[if_neg (fun (e:f u[j]=d)=>hdu (by rw[←e];exact hm))]
theorem RowsF.more {xss:List (List Nat)} {D:Nat→Prop} {f g:Nat→Nat} (h:RowsF xss D f) {v:List Nat} (hv:v.Nodup) (hx:∀ x,x∈v→¬ D x) (hc:Cy g v) (hg:∀ x,D x→g x=f x):RowsF (xss ++ [v]) (fun y=>D y∨y∈v) g:=by
 have hf:(xss ++ [v]).flatten=xss.flatten ++ v:=by simp
 refine⟨?_,fun y=>?_,fun u hu=>?_⟩
 ·rw[hf,List.nodup_append]
  refine⟨h.nd,hv,fun a ha b hb e=>hx b hb ?_⟩
  rw[←e]
  exact (h.mem a).1 ha
 ·rw[hf,List.mem_append,h.mem]
 ·rcases List.mem_append.1 hu with hu|hu
  ·exact (h.next u hu).congr fun y hy=>hg y ((h.mem y).1 (List.mem_flatten.2 ⟨u,hu,hy⟩))
  ·rw[List.mem_singleton] at hu
   subst hu
   exact hc
theorem RowsF.rows {xss:List (List Nat)} {D:Nat→Prop} {f:Nat→Nat} (h:RowsF xss D f) {T:List Nat} (hD:∀ y,D y↔y<T.length) (hf:∀ y,y<T.length→at' T y=f y):RowsOf xss T:=by
 have h2:=h.congr hD (fun y hy=>hf y ((hD y).1 hy))
 exact⟨h2.nd,h2.mem,fun v hv=>h2.next v hv⟩
theorem lists_rowsF {s:List Nat} (hs:IsPerm s):RowsF (listsL s s.length) (· < s.length) (at' s):=by
 have h:=lists_rows hs
 exact⟨h.nd,h.mem,fun v hv=>h.next v hv⟩
end
section
open Go.RowKit
set_option linter.unusedVariables false
theorem DraftAt.along {R0 R:Reg} {w0 w:World} {b:Nat} {p:Value} {L:List Nat} (h:DraftAt R0 w0 R w b p L) {n:Nat} (hn:L.length=n) (h0:0<n):
  ∃ g cap,∀ R' w',Ev R w R' w'→w'.cell? ⟨b,0,none⟩=some p∧w'.cell? ⟨b,1,none⟩=some (.slice (some ⟨g,0,none⟩) n cap) ∧
   (∀ i,i<n→w'.cell? ⟨g,i,none⟩=some (.int .i64 ((at' L i:Nat):Int))∧w'.frozen? ⟨g,i,none⟩=false) ∧
   (∀ i y,i<n→DraftAt R0 w0 R' (w'.setCell ⟨g,i,none⟩ (.int .i64 ((y:Nat):Int))) b p (L.set i y)∧(w'.setCell ⟨g,i,none⟩ (.int .i64 ((y:Nat):Int))).cell? ⟨b,1,none⟩=some (.slice (some ⟨g,0,none⟩) n cap)):=by
 obtain⟨a,cap,h1,h2,h3⟩:=h.ex
 rw[hn] at h1 h2 h3
 obtain⟨g,rfl,_⟩:=h2.headAt (by rw[toI_length];exact hn) h0
 refine⟨g,cap,fun R' w' he=>?_⟩
 have h1':=(he.block b (lt_of_block h1) h.nb).trans h1
 have h2':=h2.ev he
 obtain⟨c0,c1,hf⟩:=draft_cells h1'
 refine⟨c0,c1,fun i hi=>?_,fun i y hi=>?_⟩
 ·obtain⟨g',e,_,_,k1,k2⟩:=h2'.headAt (by rw[toI_length];exact hn) hi
  cases e
  rw[toI_nth] at k1
  exact⟨k1,k2⟩
 ·obtain⟨q1,q2,_⟩:=DraftAt.put (h.step he) hn h1' h2' h3 rfl hi y
  exact⟨q1,(draft_cells q2).2.1⟩
def flipL (s:List Nat) (d:Nat):List Nat:=
 let m:=d ^^^ 1
 let a:=at' (invL s) (at' (phiL s) (at' (phiL s) d))
 let b:=at' (invL s) (at' (phiL s) (at' (phiL s) m))
 let L1:=(s.set (at' (invL s) d) (at' s d)).set (at' (invL s) m) (at' s m)
 behindL ((behindL (L1.set d d) d a).set m m) m b
def flipB (s:List Nat) (d:Nat):Bool:=
 decide ((orbI (phiL s) (d:Int)).length=3) && decide ((orbI (phiL s) ((d ^^^ 1:Nat):Int)).length=3) && !decide (nameI (phiL s) (d:Int)=nameI (phiL s) ((d ^^^ 1:Nat):Int)) && !decide (at' s d=d) && !decide (at' s (d ^^^ 1)=d ^^^ 1)
set_option maxRecDepth 100000 in
set_option maxHeartbeats 1200000 in
theorem flip_any (R:Reg) (w:World) (hI:Inv R w) (p:Value) (s:List Nat) (root lone:Int) (hp:MapAt R p s root lone) (d:Int):
  Calls Try.prog 31 #[p,.int .i64 d] w (WayPost R w (inR s.length d) (flipB s d.toNat) (flipL s d.toNat) root lone):=by
 obtain⟨hS,hok⟩:=hp.ok hI
 have hn:s.length≤131073:=hok.2.1
 have HOf:=Lib.hid (gof_one R w hI p s root lone hp d)
 have HP:=Lib.hid hp
 have HMt:=Lib.hid (fun R' w' (h:Ev R w R' w') d=>mate_any R' w' h.inv p s root lone (h.map hp) d)
 have HTr:=Lib.hid (fun R' w' (h:Ev R w R' w') d=>gtri_any R' w' h.inv p s root lone (h.map hp) d)
 have HFc:=Lib.hid (fun R' w' (h:Ev R w R' w') d=>face_any R' w' h.inv p s root lone (h.map hp) d)
 have HSg:=Lib.hid (fun R' w' (h:Ev R w R' w') (d:Nat) (hd:d<s.length)=>(by
  have h:=sigma_any R' w' h.inv p s root lone (h.map hp) (d:Int)
  rw[atI_in hd] at h
  exact h:Calls Try.prog 61 #[p,.int .i64 (d:Int)] w' fun e w2=>e=.returned (.int .i64 ((at' s d:Nat):Int))∧w'=w2))
 have HPi:=Lib.hid (fun R' w' (h:Ev R w R' w') (d:Nat) (hd:d<s.length)=>(by
  have h:=phi_any R' w' h.inv p s root lone (h.map hp) (d:Int)
  rw[atI_in (by rw[phiL_length];exact hd)] at h
  exact h:Calls Try.prog 66 #[p,.int .i64 (d:Int)] w' fun e w2=>e=.returned (.int .i64 ((at' (phiL s) d:Nat):Int))∧w'=w2))
 have HBk:=Lib.hid (fun R' w' (h:Ev R w R' w') (d:Nat) (hd:d<s.length)=>(by
  have h:=mback_any R' w' h.inv p s root lone (h.map hp) (d:Int)
  rw[backI_in hd] at h
  exact h:Calls Try.prog 63 #[p,.int .i64 (d:Int)] w' (RetV R' w' (.int .i64 ((at' (invL s) d:Nat):Int)))))
 have HEv:=Lib.hid hok.1
 have hiv:=invL_perm hS
 have hil:=invL_length s
 have hph:=phiL_perm hS hok.1
 have hivl:∀ i,i<s.length→at' (invL s) i<s.length:=fun i hi=>by have:=hiv.lt (i:=i) (by rw[hil];exact hi);omega
 have hphl:∀ i,i<s.length→at' (phiL s) i<s.length:=fun i hi=>by have:=hph.lt (i:=i) (by rw[phiL_length];exact hi);rw[phiL_length] at this;exact this
 have HIv:=Lib.hid hivl
 have HPh:=Lib.hid hphl
 have HSl:=Lib.hid (fun i (hi:i<s.length)=>hS.lt hi)
 clear hI hp hS hok hiv hil hph hivl hphl
 go_enter Try.func31,Try.ntmps31
 go_wp2_with fail
 refine HOf.out.mono ?_
 rintro e w1 (⟨h1,rfl,he⟩|⟨h1,b,rfl,hd⟩)
 ·have HE:=Lib.hid he
  have H1:=Lib.hid h1
  clear he h1
  go_wp2_with fail
  go_ret2
  exact Or.inl ⟨H1.out,rfl,R,HE.out⟩
 ·obtain⟨k,rfl,hk⟩:=inR_nat h1
  have HD1:=Lib.hid hd
  have H1:=Lib.hid h1
  have hmk:=xor_one_lt HEv.out hk
  have hm:=mateI_in hk
  have hfb:flipB s (k:Int).toNat=(decide ((orbI (phiL s) (k:Int)).length=3) && decide ((orbI (phiL s) ((k ^^^ 1:Nat):Int)).length=3) && !decide (nameI (phiL s) (k:Int)=nameI (phiL s) ((k ^^^ 1:Nat):Int)) && !decide (at' s k=k) && !decide (at' s (k ^^^ 1)=k ^^^ 1)):=by
   unfold flipB;rw[Int.toNat_natCast]
  have hfl:flipL s (k:Int).toNat=behindL ((behindL (((s.set (at' (invL s) k) (at' s k)).set (at' (invL s) (k ^^^ 1)) (at' s (k ^^^ 1))).set k k) k (at' (invL s) (at' (phiL s) (at' (phiL s) k)))).set (k ^^^ 1) (k ^^^ 1)) (k ^^^ 1) (at' (invL s) (at' (phiL s) (at' (phiL s) (k ^^^ 1)))):=by
   simp only[flipL,Int.toNat_natCast]
  obtain⟨m,hme⟩:∃ m,k ^^^ 1=m:=⟨_,rfl⟩
  rw[hme] at hmk hm hfb hfl
  obtain⟨n,hne⟩:∃ n,s.length=n:=⟨_,rfl⟩
  have HNe:=Lib.hid hne
  have HM:=Lib.hid hm
  obtain⟨B1,hB1⟩:∃ x,decide ((orbI (phiL s) (k:Int)).length=3)=x:=⟨_,rfl⟩
  obtain⟨B2,hB2⟩:∃ x,decide ((orbI (phiL s) (m:Int)).length=3)=x:=⟨_,rfl⟩
  obtain⟨N1,hN1⟩:∃ x,nameI (phiL s) (k:Int)=x:=⟨_,rfl⟩
  obtain⟨N2,hN2⟩:∃ x,nameI (phiL s) (m:Int)=x:=⟨_,rfl⟩
  obtain⟨S1,hS1⟩:∃ x,at' s k=x:=⟨_,rfl⟩
  obtain⟨S2,hS2⟩:∃ x,at' s m=x:=⟨_,rfl⟩
  rw[hB1,hB2,hN1,hN2,hS1,hS2] at hfb
  rw[hS1,hS2] at hfl
  have T1:=fun R' w' (h:Ev R w R' w')=>HTr.out R' w' h (k:Int)
  have T2:=fun R' w' (h:Ev R w R' w')=>HTr.out R' w' h (m:Int)
  have F1:=fun R' w' (h:Ev R w R' w')=>HFc.out R' w' h (k:Int)
  have F2:=fun R' w' (h:Ev R w R' w')=>HFc.out R' w' h (m:Int)
  have G1:=fun R' w' (h:Ev R w R' w')=>HSg.out R' w' h k hk
  have G2:=fun R' w' (h:Ev R w R' w')=>HSg.out R' w' h m hmk
  rw[hB1] at T1
  rw[hB2] at T2
  rw[hN1] at F1
  rw[hN2] at F2
  rw[hS1] at G1
  rw[hS2] at G2
  have HT1:=Lib.hid T1
  have HT2:=Lib.hid T2
  have HF1:=Lib.hid F1
  have HF2:=Lib.hid F2
  have HG1:=Lib.hid G1
  have HG2:=Lib.hid G2
  have HFb:=Lib.hid hfb
  have z1:=HPh.out k hk
  have z2:=HPh.out _ z1
  have z3:=HIv.out _ z2
  have y1:=HPh.out m hmk
  have y2:=HPh.out _ y1
  have y3:=HIv.out _ y2
  have x1:=HIv.out k hk
  have x2:=HIv.out m hmk
  have u1:=fun R' w' (h:Ev R w R' w')=>HPi.out R' w' h k hk
  have u2:=fun R' w' (h:Ev R w R' w')=>HPi.out R' w' h _ z1
  have u3:=fun R' w' (h:Ev R w R' w')=>HBk.out R' w' h _ z2
  have v1:=fun R' w' (h:Ev R w R' w')=>HPi.out R' w' h m hmk
  have v2:=fun R' w' (h:Ev R w R' w')=>HPi.out R' w' h _ y1
  have v3:=fun R' w' (h:Ev R w R' w')=>HBk.out R' w' h _ y2
  have r1:=fun R' w' (h:Ev R w R' w')=>HBk.out R' w' h k hk
  have r2:=fun R' w' (h:Ev R w R' w')=>HBk.out R' w' h m hmk
  obtain⟨p1,e1⟩:∃ x,at' (phiL s) k=x:=⟨_,rfl⟩
  rw[e1] at z1 z2 z3 u1 u2 u3 hfl
  obtain⟨p2,e2⟩:∃ x,at' (phiL s) p1=x:=⟨_,rfl⟩
  rw[e2] at z2 z3 u2 u3 hfl
  obtain⟨A,e3⟩:∃ x,at' (invL s) p2=x:=⟨_,rfl⟩
  rw[e3] at z3 u3 hfl
  obtain⟨q1,e4⟩:∃ x,at' (phiL s) m=x:=⟨_,rfl⟩
  rw[e4] at y1 y2 y3 v1 v2 v3 hfl
  obtain⟨q2,e5⟩:∃ x,at' (phiL s) q1=x:=⟨_,rfl⟩
  rw[e5] at y2 y3 v2 v3 hfl
  obtain⟨C,e6⟩:∃ x,at' (invL s) q2=x:=⟨_,rfl⟩
  rw[e6] at y3 v3 hfl
  obtain⟨I1,e7⟩:∃ x,at' (invL s) k=x:=⟨_,rfl⟩
  rw[e7] at x1 r1 hfl
  obtain⟨I2,e8⟩:∃ x,at' (invL s) m=x:=⟨_,rfl⟩
  rw[e8] at x2 r2 hfl
  rw[hne] at hn hk hmk z3 y3 x1 x2
  have HFl:=Lib.hid hfl
  have U1:=Lib.hid u1
  have U2:=Lib.hid u2
  have U3:=Lib.hid u3
  have V1:=Lib.hid v1
  have V2:=Lib.hid v2
  have V3:=Lib.hid v3
  have RR1:=Lib.hid r1
  have RR2:=Lib.hid r2
  clear hd h1 HOf hm hfb hfl hme hne hB1 hB2 hN1 hN2 hS1 hS2 T1 T2 F1 F2 G1 G2 u1 u2 u3 v1 v2 v3 r1 r2 e1 e2 e3 e4 e5 e6 e7 e8 z1 z2 y1 y2 HTr HFc HSg HPi HBk
  have hmt:=HMt.out _ _ HD1.out.ev (k:Int)
  rw[HM.out] at hmt
  have HMt2:=Lib.hid hmt
  clear hmt HMt
  go_wp2_with fail
  refine HMt2.out.mono ?_
  rintro e w' ⟨rfl,rfl⟩
  clear HMt2
  go_wp2_with fail
  refine (HT1.out _ _ HD1.out.ev).mono ?_
  rintro e w2 ⟨rfl,R2,he⟩
  have HD2:=Lib.hid (HD1.out.step he)
  clear he HD1
  cases B1 with
  | false=>
   go_wp2_with fail
   go_ret2
   exact Or.inr (Or.inl ⟨H1.out,by rw[HFb.out];simp,rfl,R2,HD2.out.ev⟩)
  | true=>
   go_wp2_with fail
   refine (HT2.out _ _ HD2.out.ev).mono ?_
   rintro e w3 ⟨rfl,R3,he⟩
   have HD3:=Lib.hid (HD2.out.step he)
   clear he HD2
   cases B2 with
   | false=>
    go_wp2_with fail
    go_ret2
    exact Or.inr (Or.inl ⟨H1.out,by rw[HFb.out];simp,rfl,R3,HD3.out.ev⟩)
   | true=>
    go_wp2_with fail
    refine (HF1.out _ _ HD3.out.ev).mono ?_
    rintro e w4 ⟨rfl,R4,he⟩
    have HD4:=Lib.hid (HD3.out.step he)
    clear he HD3
    go_wp2_with fail
    refine (HF2.out _ _ HD4.out.ev).mono ?_
    rintro e w5 ⟨rfl,R5,he⟩
    have HD5:=Lib.hid (HD4.out.step he)
    clear he HD4
    by_cases hN:N1=N2
    ·have hb1:(N1 == N2)=true:=by simp[hN]
     go_wp2_with fail
     go_ret2
     exact Or.inr (Or.inl ⟨H1.out,by rw[HFb.out];simp[hN],rfl,R5,HD5.out.ev⟩)
    ·have hb1:(N1 == N2)=false:=by simp[hN]
     go_wp2_with fail
     refine (HG1.out _ _ HD5.out.ev).mono ?_
     rintro e w' ⟨rfl,rfl⟩
     by_cases hK1:S1=k
     ·have hb2:((S1:Int) == (k:Int))=true:=by simp[hK1]
      go_wp2_with fail
      go_ret2
      exact Or.inr (Or.inl ⟨H1.out,by rw[HFb.out];simp[hK1],rfl,R5,HD5.out.ev⟩)
     ·have hb2:((S1:Int) == (k:Int))=false:=by simp;omega
      go_wp2_with fail
      refine (HG2.out _ _ HD5.out.ev).mono ?_
      rintro e w' ⟨rfl,rfl⟩
      by_cases hK2:S2=m
      ·have hb3:((S2:Int) == (m:Int))=true:=by simp[hK2]
       go_wp2_with fail
       go_ret2
       exact Or.inr (Or.inl ⟨H1.out,by rw[HFb.out];simp[hK2],rfl,R5,HD5.out.ev⟩)
      ·have hb3:((S2:Int) == (m:Int))=false:=by simp;omega
       have HFb2:Hid (flipB s (k:Int).toNat=true):=Lib.hid (by rw[HFb.out];simp[hN,hK1,hK2])
       clear HFb
       go_wp2_with fail
       refine (U1.out _ _ HD5.out.ev).mono ?_
       rintro e w' ⟨rfl,rfl⟩
       go_wp2_with fail
       refine (U2.out _ _ HD5.out.ev).mono ?_
       rintro e w' ⟨rfl,rfl⟩
       go_wp2_with fail
       refine (U3.out _ _ HD5.out.ev).mono ?_
       rintro e w6 ⟨rfl,R6,he⟩
       have HD6:=Lib.hid (HD5.out.step he)
       clear he HD5 hb1 hb2 hb3
       go_wp2_with fail
       refine (V1.out _ _ HD6.out.ev).mono ?_
       rintro e w' ⟨rfl,rfl⟩
       go_wp2_with fail
       refine (V2.out _ _ HD6.out.ev).mono ?_
       rintro e w' ⟨rfl,rfl⟩
       go_wp2_with fail
       refine (V3.out _ _ HD6.out.ev).mono ?_
       rintro e w7 ⟨rfl,R7,he⟩
       have HD7:=Lib.hid (HD6.out.step he)
       have HD8:=Lib.hid (HD7.out.step ((Ev.refl HD7.out.ev.inv).alloc (.cells #[.int .i64 (k:Int),.int .i64 (A:Int),.int .i64 (m:Int),.int .i64 (C:Int)] 103)))
       clear he HD6 U1 U2 U3 V1 V2 V3
       have ix0:∀ w,(Instr.index 103 (.agg #[.int .i64 (k:Int),.int .i64 (A:Int),.int .i64 (m:Int),.int .i64 (C:Int)]) (.int .i64 0)).run Try.prog w=.ok (.agg #[.int .i64 (k:Int),.int .i64 (A:Int)]) w:=fun _=>by kernel_rfl
       have ix1:∀ w,(Instr.index 103 (.agg #[.int .i64 (k:Int),.int .i64 (A:Int),.int .i64 (m:Int),.int .i64 (C:Int)]) (.int .i64 1)).run Try.prog w=.ok (.agg #[.int .i64 (m:Int),.int .i64 (C:Int)]) w:=fun _=>by kernel_rfl
       have hArN:R7 w7.heap.size=none:=HD7.out.ev.inv.none_of_ge (Nat.le_refl _)
       have hPut:Ev R7 w7 (R7.put w7.heap.size (.inl (.cells #[.int .i64 (k:Int),.int .i64 (A:Int),.int .i64 (m:Int),.int .i64 (C:Int)] 103 (0,0)))) (w7.alloc (.cells #[.int .i64 (k:Int),.int .i64 (A:Int),.int .i64 (m:Int),.int .i64 (C:Int)] 103)):=((Ev.refl HD7.out.ev.inv).alloc (.cells #[.int .i64 (k:Int),.int .i64 (A:Int),.int .i64 (m:Int),.int .i64 (C:Int)] 103)).put _ (Nat.le_refl _) hArN (heap_alloc_new _ _)
       have HD9:=Lib.hid (HD7.out.step hPut)
       have hAr0:(R7.put w7.heap.size (.inl (.cells #[.int .i64 (k:Int),.int .i64 (A:Int),.int .i64 (m:Int),.int .i64 (C:Int)] 103 (0,0)))) w7.heap.size=some (.inl (.cells #[.int .i64 (k:Int),.int .i64 (A:Int),.int .i64 (m:Int),.int .i64 (C:Int)] 103 (0,0))):=Reg.put_same _ _ _
       obtain⟨R8,hR8⟩:∃ x,R7.put w7.heap.size (.inl (.cells #[.int .i64 (k:Int),.int .i64 (A:Int),.int .i64 (m:Int),.int .i64 (C:Int)] 103 (0,0)))=x:=⟨_,rfl⟩
       obtain⟨w8,hw8⟩:∃ x,w7.alloc (.cells #[.int .i64 (k:Int),.int .i64 (A:Int),.int .i64 (m:Int),.int .i64 (C:Int)] 103)=x:=⟨_,rfl⟩
       obtain⟨ar,har⟩:∃ x,w7.heap.size=x:=⟨_,rfl⟩
       rw[hR8,har] at hAr0
       rw[hR8,hw8] at HD9
       have HAr:=Lib.hid hAr0
       have a0:w8.cell? ⟨ar,0,none⟩=some (.int .i64 (k:Int)):=by rw[←hw8,←har];simp
       go_upto_region 8 with fail
       try rw[hw8]
       try rw[har]
       have hblk:w8.heap[ar]?=some (.cells #[.int .i64 (k:Int),.int .i64 (A:Int),.int .i64 (m:Int),.int .i64 (C:Int)] 103):=HD9.out.ev.inv _ _ hAr0
       have a0:=cells_at hblk 0
       have a1:=cells_at hblk 1
       have a2:=cells_at hblk 2
       have a3:=cells_at hblk 3
       simp at a0 a1 a2 a3
       have hN0:0<n:=by omega
       clear hAr0 hPut hArN hblk HD7 HD8 hR8 hw8 har
       go_wp2_with fail
       go_loopg [80] 2 (fun g v80 wr=>∃ (i:Nat) (R':Reg) (X:List Nat),i≤2∧2-i≤g∧DraftAt R w R' wr b p X∧R' ar=some (.inl (.cells #[.int .i64 (k:Int),.int .i64 (A:Int),.int .i64 (m:Int),.int .i64 (C:Int)] 103 (0,0)))∧X.length=n∧((i=0∧v80=.int .i64 0∧X=s)∨(i=1∧v80=.int .i64 1∧X=s.set I1 S1)∨(i=2∧v80=.int .i64 2∧X=(s.set I1 S1).set I2 S2)))
       case atStart=>exact⟨0,R8,s,by omega,by omega,HD9.out,HAr.out,HNe.out,by simp⟩
       case round=>
        clear a0 a1 a2 a3 HD9 HAr
        obtain⟨i,R',X,hi,hg,hdr,har,hxn,hst⟩:=hrel
        rcases hst with ⟨rfl,rfl,hX⟩|⟨rfl,rfl,hX⟩|⟨rfl,rfl,hX⟩
        ·have HX:=Lib.hid hX
         have hW:=hdr.step ((Ev.refl hdr.ev.inv).alloc (.cells #[.int .i64 (k:Int),.int .i64 (A:Int)] 45))
         have hnb:R' wr.heap.size=none:=hdr.ev.inv.none_of_ge (Nat.le_refl _)
         obtain⟨g,cap,hal0⟩:=hdr.along hxn hN0
         have hgl:g<wr.heap.size:=lt_of_cell ((hal0 _ _ (Ev.refl hdr.ev.inv)).2.2.1 I1 x1).1
         have hal:=fun R2 w2 (he:Ev R' (wr.alloc (.cells #[.int .i64 (k:Int),.int .i64 (A:Int)] 45)) R2 w2)=>hal0 R2 w2 (((Ev.refl hdr.ev.inv).alloc (.cells #[.int .i64 (k:Int),.int .i64 (A:Int)] 45)).trans he)
         have hC:=fun R2 w2 (he:Ev R' (wr.alloc (.cells #[.int .i64 (k:Int),.int .i64 (A:Int)] 45)) R2 w2)=>(show w2.cell? ⟨wr.heap.size,0,none⟩=some (.int .i64 (k:Int))∧(w2.setCell ⟨g,I1,none⟩ (.int .i64 (S1:Int))).cell? ⟨b,1,none⟩=some (.slice (some ⟨g,0,none⟩) n cap)∧(w2.setCell ⟨g,I1,none⟩ (.int .i64 (S1:Int))).cell? ⟨wr.heap.size,0,none⟩=some (.int .i64 (k:Int)) from by
          have h:=(he.block wr.heap.size (by simp) hnb).trans (heap_alloc_new _ _)
          have h2:(w2.setCell ⟨g,I1,none⟩ (.int .i64 (S1:Int))).heap[wr.heap.size]?=_:=(Below.heap_setCell _ _ _ _ (by show wr.heap.size≠g;omega)).trans h
          exact⟨cells_at h 0,((hal _ _ he).2.2.2 I1 S1 x1).2,cells_at h2 0⟩)
         have hx2:=Lib.hid hxn
         go_upto_region 11 with fail
         obtain⟨wy,hwy⟩:∃ x,wr.alloc (.cells #[.int .i64 (k:Int),.int .i64 (A:Int)] 45)=x:=⟨_,rfl⟩
         obtain⟨yb,hyb⟩:∃ x,wr.heap.size=x:=⟨_,rfl⟩
         rw[hwy] at hC hW hal ⊢
         rw[hyb] at hC ⊢
         have HC:=Lib.hid hC
         have HAl:=Lib.hid hal
         have HW:=Lib.hid hW
         have HEd:=Lib.hid ((Ev.refl hW.ev.inv).drew)
         have HAr:=Lib.hid har
         have hir:(I1:Int)<(n:Int):=by omega
         clear hC hal hal0 hW hnb hdr hX har hwy hyb hxn hgl
         obtain⟨c0,c1,hcc,_⟩:=HAl.out _ _ HEd.out
         obtain⟨k1,f1⟩:=hcc I1 x1
         obtain⟨yc0,yd1,yd0⟩:=HC.out _ _ HEd.out
         clear hcc
         go_region_held3 (fun w'=>w'.cell? ⟨b,1,none⟩=some (.slice (some ⟨g,0,none⟩) n cap)∧w'.cell? ⟨yb,0,none⟩=some (.int .i64 (k:Int))) (first|exact⟨c1,yc0⟩|exact⟨yd1,yd0⟩) (first|(go_at_call 63;refine (RR1.out _ _ (HW.out.ev.trans HEd.out)).mono ?_;rintro z wa ⟨rfl,Ra,hea⟩;have HEd:=Lib.hid (HEd.out.trans hea);clear hea;obtain⟨c0,c1,hcc,_⟩:=HAl.out _ _ HEd.out;obtain⟨k1,f1⟩:=hcc I1 x1;obtain⟨yc0,yd1,yd0⟩:=HC.out _ _ HEd.out;clear hcc)|(go_at_call 61;refine (HG1.out _ _ (HW.out.ev.trans HEd.out)).mono ?_;rintro z w' ⟨rfl,rfl⟩))
         all_goals (go_wp2_with fail)
         all_goals go_roundg (2-(0+1))
         all_goals first|(have hgo:=hg;omega)|exact⟨0+1,_,_,by omega,by omega,((HAl.out _ _ HEd.out).2.2.2 I1 S1 x1).1,HEd.out.reg _ _ HAr.out,by rw[List.length_set];exact hx2.out,by rw[HX.out];simp⟩
        ·have HX:=Lib.hid hX
         have hW:=hdr.step ((Ev.refl hdr.ev.inv).alloc (.cells #[.int .i64 (m:Int),.int .i64 (C:Int)] 45))
         have hnb:R' wr.heap.size=none:=hdr.ev.inv.none_of_ge (Nat.le_refl _)
         obtain⟨g,cap,hal0⟩:=hdr.along hxn hN0
         have hgl:g<wr.heap.size:=lt_of_cell ((hal0 _ _ (Ev.refl hdr.ev.inv)).2.2.1 I2 x2).1
         have hal:=fun R2 w2 (he:Ev R' (wr.alloc (.cells #[.int .i64 (m:Int),.int .i64 (C:Int)] 45)) R2 w2)=>hal0 R2 w2 (((Ev.refl hdr.ev.inv).alloc (.cells #[.int .i64 (m:Int),.int .i64 (C:Int)] 45)).trans he)
         have hC:=fun R2 w2 (he:Ev R' (wr.alloc (.cells #[.int .i64 (m:Int),.int .i64 (C:Int)] 45)) R2 w2)=>(show w2.cell? ⟨wr.heap.size,0,none⟩=some (.int .i64 (m:Int))∧(w2.setCell ⟨g,I2,none⟩ (.int .i64 (S2:Int))).cell? ⟨b,1,none⟩=some (.slice (some ⟨g,0,none⟩) n cap)∧(w2.setCell ⟨g,I2,none⟩ (.int .i64 (S2:Int))).cell? ⟨wr.heap.size,0,none⟩=some (.int .i64 (m:Int)) from by
          have h:=(he.block wr.heap.size (by simp) hnb).trans (heap_alloc_new _ _)
          have h2:(w2.setCell ⟨g,I2,none⟩ (.int .i64 (S2:Int))).heap[wr.heap.size]?=_:=(Below.heap_setCell _ _ _ _ (by show wr.heap.size≠g;omega)).trans h
          exact⟨cells_at h 0,((hal _ _ he).2.2.2 I2 S2 x2).2,cells_at h2 0⟩)
         have hx2:=Lib.hid hxn
         go_upto_region 11 with fail
         obtain⟨wy,hwy⟩:∃ x,wr.alloc (.cells #[.int .i64 (m:Int),.int .i64 (C:Int)] 45)=x:=⟨_,rfl⟩
         obtain⟨yb,hyb⟩:∃ x,wr.heap.size=x:=⟨_,rfl⟩
         rw[hwy] at hC hW hal ⊢
         rw[hyb] at hC ⊢
         have HC:=Lib.hid hC
         have HAl:=Lib.hid hal
         have HW:=Lib.hid hW
         have HEd:=Lib.hid ((Ev.refl hW.ev.inv).drew)
         have HAr:=Lib.hid har
         have hir:(I2:Int)<(n:Int):=by omega
         clear hC hal hal0 hW hnb hdr hX har hwy hyb hxn hgl
         obtain⟨c0,c1,hcc,_⟩:=HAl.out _ _ HEd.out
         obtain⟨k1,f1⟩:=hcc I2 x2
         obtain⟨yc0,yd1,yd0⟩:=HC.out _ _ HEd.out
         clear hcc
         go_region_held3 (fun w'=>w'.cell? ⟨b,1,none⟩=some (.slice (some ⟨g,0,none⟩) n cap)∧w'.cell? ⟨yb,0,none⟩=some (.int .i64 (m:Int))) (first|exact⟨c1,yc0⟩|exact⟨yd1,yd0⟩) (first|(go_at_call 63;refine (RR2.out _ _ (HW.out.ev.trans HEd.out)).mono ?_;rintro z wa ⟨rfl,Ra,hea⟩;have HEd:=Lib.hid (HEd.out.trans hea);clear hea;obtain⟨c0,c1,hcc,_⟩:=HAl.out _ _ HEd.out;obtain⟨k1,f1⟩:=hcc I2 x2;obtain⟨yc0,yd1,yd0⟩:=HC.out _ _ HEd.out;clear hcc)|(go_at_call 61;refine (HG2.out _ _ (HW.out.ev.trans HEd.out)).mono ?_;rintro z w' ⟨rfl,rfl⟩))
         all_goals (go_wp2_with fail)
         all_goals go_roundg (2-(1+1))
         all_goals first|(have hgo:=hg;omega)|exact⟨1+1,_,_,by omega,by omega,((HAl.out _ _ HEd.out).2.2.2 I2 S2 x2).1,HEd.out.reg _ _ HAr.out,by rw[List.length_set];exact hx2.out,by rw[HX.out];simp⟩
        ·have HX:=Lib.hid hX
         have HDr:=Lib.hid hdr
         have HAr:=Lib.hid har
         have HXn:=Lib.hid hxn
         have hblk:wr.heap[ar]?=some (.cells #[.int .i64 (k:Int),.int .i64 (A:Int),.int .i64 (m:Int),.int .i64 (C:Int)] 103):=hdr.ev.inv _ _ har
         have a0:=cells_at hblk 0
         have a1:=cells_at hblk 1
         have a2:=cells_at hblk 2
         have a3:=cells_at hblk 3
         simp at a0 a1 a2 a3
         obtain⟨wz,hwz⟩:∃ wz,wz=wr:=⟨_,rfl⟩
         subst hwz
         obtain⟨Rz,hRz⟩:∃ x,x=R':=⟨_,rfl⟩
         subst hRz
         clear hX hdr har hxn hblk
         go_wp2_with fail
         go_loopg [98] 2 (fun g v98 wr=>∃ (i:Nat) (R':Reg) (Y:List Nat),i≤2∧2-i≤g∧DraftAt R w R' wr b p Y∧Y.length=n∧((i=0∧v98=.int .i64 0∧Y=X)∨(i=1∧v98=.int .i64 1∧Y=behindL (X.set k k) k A)∨(i=2∧v98=.int .i64 2∧Y=behindL ((behindL (X.set k k) k A).set m m) m C)))
         case atStart=>exact⟨0,Rz,X,by omega,by omega,HDr.out,HXn.out,by simp⟩
         case round=>
          clear a0 a1 a2 a3 HDr
          obtain⟨i,R',Y,hi,hg,hdr,hyn,hst⟩:=hrel
          rcases hst with ⟨rfl,rfl,hY⟩|⟨rfl,rfl,hY⟩|⟨rfl,rfl,hY⟩
          ·have HY:=Lib.hid hY
           have hW:=hdr.step ((Ev.refl hdr.ev.inv).alloc (.cells #[.int .i64 (k:Int),.int .i64 (A:Int)] 45))
           obtain⟨g,cap,hal⟩:=hdr.along hyn hN0
           have hgl:g<wr.heap.size:=lt_of_cell ((hal _ _ (Ev.refl hdr.ev.inv)).2.2.1 k hk).1
           have hb:(wr.alloc (.cells #[.int .i64 (k:Int),.int .i64 (A:Int)] 45)).heap[wr.heap.size]?=some (.cells #[.int .i64 (k:Int),.int .i64 (A:Int)] 45 (0,0)):=heap_alloc_new _ _
           obtain⟨c0,c1,hcc,hput⟩:=hal _ _ ((Ev.refl hdr.ev.inv).alloc (.cells #[.int .i64 (k:Int),.int .i64 (A:Int)] 45))
           obtain⟨k1,f1⟩:=hcc k hk
           have hd9:=(hput k k hk).1
           go_upto_region 16 with fail
           obtain⟨wy,hwy⟩:∃ x,wr.alloc (.cells #[.int .i64 (k:Int),.int .i64 (A:Int)] 45)=x:=⟨_,rfl⟩
           obtain⟨yb,hyb⟩:∃ x,wr.heap.size=x:=⟨_,rfl⟩
           rw[hwy] at hW hb c0 c1 k1 f1 hd9 ⊢
           rw[hyb] at hb hgl ⊢
           have yc0:=cells_at hb 0
           have yc1:=cells_at hb 1
           have hb9:(wy.setCell ⟨g,k,none⟩ (.int .i64 (k:Int))).drew.heap[yb]?=some (.cells #[.int .i64 (k:Int),.int .i64 (A:Int)] 45 (0,0)):=(Below.heap_setCell _ _ _ _ (by show yb≠g;omega)).trans hb
           simp at yc0 yc1
           have HD9:=Lib.hid hd9.drew
           have HB9:=Lib.hid hb9
           have hyr:(k:Int)<(n:Int):=by omega
           have hx2:=Lib.hid hyn
           have hyl:=Lib.hid (show (Y.set k k).length=n by rw[List.length_set];exact hyn)
           clear hal hput hcc hW hb hdr hY hyn hgl hwy hyb hd9 hb9
           go_region
           go_upto_region 17 with fail
           obtain⟨w9,hw9⟩:∃ x,(wy.setCell ⟨g,k,none⟩ (.int .i64 (k:Int))).drew=x:=⟨_,rfl⟩
           rw[hw9] at HD9 HB9 ⊢
           have yd0:=cells_at HB9.out 0
           have yd1:=cells_at HB9.out 1
           simp at yd0 yd1
           have HBh:=Lib.hid (gbehind_any HD9.out (d:=k) (t:=A) (by have:=hyl.out;omega) (by rw[hyl.out];exact hk) (by rw[hyl.out];exact z3))
           clear hw9 c0 c1 k1 f1 yc0 yc1 HB9
           go_wp2_with fail
           refine HBh.out.mono ?_
           rintro e wb ⟨rfl,hdb⟩
           have HDb:=Lib.hid hdb
           clear hdb HBh yd0 yd1
           go_wp2_with fail
           go_roundg (2-(0+1))
           case measure=>omega
           case rel=>exact⟨0+1,_,_,by omega,by omega,HDb.out,by rw[behindL_length];exact hyl.out,by rw[HY.out];simp⟩
          ·have HY:=Lib.hid hY
           have hW:=hdr.step ((Ev.refl hdr.ev.inv).alloc (.cells #[.int .i64 (m:Int),.int .i64 (C:Int)] 45))
           obtain⟨g,cap,hal⟩:=hdr.along hyn hN0
           have hgl:g<wr.heap.size:=lt_of_cell ((hal _ _ (Ev.refl hdr.ev.inv)).2.2.1 m hmk).1
           have hb:(wr.alloc (.cells #[.int .i64 (m:Int),.int .i64 (C:Int)] 45)).heap[wr.heap.size]?=some (.cells #[.int .i64 (m:Int),.int .i64 (C:Int)] 45 (0,0)):=heap_alloc_new _ _
           obtain⟨c0,c1,hcc,hput⟩:=hal _ _ ((Ev.refl hdr.ev.inv).alloc (.cells #[.int .i64 (m:Int),.int .i64 (C:Int)] 45))
           obtain⟨k1,f1⟩:=hcc m hmk
           have hd9:=(hput m m hmk).1
           go_upto_region 16 with fail
           obtain⟨wy,hwy⟩:∃ x,wr.alloc (.cells #[.int .i64 (m:Int),.int .i64 (C:Int)] 45)=x:=⟨_,rfl⟩
           obtain⟨yb,hyb⟩:∃ x,wr.heap.size=x:=⟨_,rfl⟩
           rw[hwy] at hW hb c0 c1 k1 f1 hd9 ⊢
           rw[hyb] at hb hgl ⊢
           have yc0:=cells_at hb 0
           have yc1:=cells_at hb 1
           have hb9:(wy.setCell ⟨g,m,none⟩ (.int .i64 (m:Int))).drew.heap[yb]?=some (.cells #[.int .i64 (m:Int),.int .i64 (C:Int)] 45 (0,0)):=(Below.heap_setCell _ _ _ _ (by show yb≠g;omega)).trans hb
           simp at yc0 yc1
           have HD9:=Lib.hid hd9.drew
           have HB9:=Lib.hid hb9
           have hyr:(m:Int)<(n:Int):=by omega
           have hx2:=Lib.hid hyn
           have hyl:=Lib.hid (show (Y.set m m).length=n by rw[List.length_set];exact hyn)
           clear hal hput hcc hW hb hdr hY hyn hgl hwy hyb hd9 hb9
           go_region
           go_upto_region 17 with fail
           obtain⟨w9,hw9⟩:∃ x,(wy.setCell ⟨g,m,none⟩ (.int .i64 (m:Int))).drew=x:=⟨_,rfl⟩
           rw[hw9] at HD9 HB9 ⊢
           have yd0:=cells_at HB9.out 0
           have yd1:=cells_at HB9.out 1
           simp at yd0 yd1
           have HBh:=Lib.hid (gbehind_any HD9.out (d:=m) (t:=C) (by have:=hyl.out;omega) (by rw[hyl.out];exact hmk) (by rw[hyl.out];exact y3))
           clear hw9 c0 c1 k1 f1 yc0 yc1 HB9
           go_wp2_with fail
           refine HBh.out.mono ?_
           rintro e wb ⟨rfl,hdb⟩
           have HDb:=Lib.hid hdb
           clear hdb HBh yd0 yd1
           go_wp2_with fail
           go_roundg (2-(1+1))
           case measure=>omega
           case rel=>exact⟨1+1,_,_,by omega,by omega,HDb.out,by rw[behindL_length];exact hyl.out,by rw[HY.out];simp⟩
          ·have HY:=Lib.hid hY
           have HDn:=Lib.hid (gdone_any hdr root lone (hdr.ev.map HP.out) (by omega))
           clear hdr hY
           go_wp2_with fail
           refine HDn.out.mono ?_
           rintro e w9 hpo
           obtain⟨q,c,rfl⟩:=hpo.two
           have HPo:=Lib.hid hpo
           clear hpo HDn
           go_wp2_with fail
           go_ret2
           exact Or.inr (Or.inr ⟨H1.out,HFb2.out,by rw[HFl.out,←HX.out,←HY.out];exact HPo.out⟩)
end
section
open Go.RowKit
set_option linter.unusedVariables false
structure OwnRR (R:Reg) (B:Nat) (w:World) (st v:Value) (S:List Nat) (vs:List Value) (xss:List (List Nat)):Prop where
 ost:OwnI R B 3 w st (toI S)
 ov:OwnV R B 25 1 w v xss.length vs
 len:vs.length=xss.length
 row:∀ i,i<xss.length→OwnI R B 3 w (vs.getD i nilS) (toI (xss.getD i []))
 sv:∀ k,st.ownBlock=some k→v.ownBlock≠some k
 sr:∀ i,i<xss.length→∀ k,st.ownBlock=some k→(vs.getD i nilS).ownBlock≠some k
 vr:∀ i,i<xss.length→∀ k,v.ownBlock=some k→(vs.getD i nilS).ownBlock≠some k
 rr:∀ i j,i<xss.length→j<xss.length→i≠j→∀ k,(vs.getD i nilS).ownBlock=some k→(vs.getD j nilS).ownBlock≠some k
theorem getD_set {α:Type} {xs:List α} {i j:Nat} {x d:α} (hi:i<xs.length):(xs.set i x).getD j d=if j=i then x else xs.getD j d:=by
 rw[List.getD_eq_getElem?_getD,List.getD_eq_getElem?_getD,List.getElem?_set]
 by_cases h:i=j
 ·subst h
  rw[if_pos rfl,if_pos rfl,if_pos hi]
  rfl
 ·rw[if_neg h,if_neg (fun e=>h e.symm)]
theorem getD_app {α:Type} {xs:List α} {j:Nat} {x d:α}:(xs ++ [x]).getD j d=if j=xs.length then x else xs.getD j d:=by
 rw[List.getD_eq_getElem?_getD,List.getD_eq_getElem?_getD]
 by_cases h:j=xs.length
 ·rw[if_pos h,h];simp
 ·rw[if_neg h]
  by_cases h1:j<xs.length
  ·rw[List.getElem?_append_left h1]
  ·rw[List.getElem?_eq_none (by simp;omega),List.getElem?_eq_none (by omega)]
section
variable {R : Reg} {B : Nat} {w : World} {st v : Value} {S : List Nat} {vs : List Value} {xss : List (List Nat)} (h : OwnRR R B w st v S vs xss)
include h
theorem OwnRR.kept {w':World} {row:Option Nat} (hg:w.grownBy w' row) (hs:∀ k,row=some k→w.heap.size≤k):OwnRR R B w' st v S vs xss:=by
 have key:∀ (u:Value),(∀ k,u.ownBlock=some k→B≤k∧k<w.heap.size)→u.ownBlock=none∨u.ownBlock≠row:=fun u hu=>by
  cases e:u.ownBlock with
  | none=>exact Or.inl rfl
  | some k=>exact Or.inr fun e2=>by have:=hs k e2.symm;have:=(hu k e).2;omega
 exact⟨h.ost.kept hg (key _ h.ost.lt),h.ov.kept hg (key _ h.ov.lt),h.len,fun i hi=>(h.row i hi).kept hg (key _ (h.row i hi).lt),h.sv,h.sr,h.vr,h.rr⟩
theorem OwnRR.alloc (o:Obj):OwnRR R B (w.alloc o) st v S vs xss:=h.kept (World.grownBy_alloc w o none) (fun k e=>by cases e)
theorem OwnRR.drew:OwnRR R B w.drew st v S vs xss:=⟨h.ost.drew,h.ov.drew,h.len,fun i hi=>(h.row i hi).drew,h.sv,h.sr,h.vr,h.rr⟩
theorem OwnRR.pushS {w':World} {st':Value} {x:Nat} (ho:OwnI R B 3 w' st' (toI (S ++ [x]))) (hg:w.grownBy w' st.ownBlock) (hs:∀ k,st'.ownBlock=some k→st.ownBlock=some k∨w.heap.size≤k):OwnRR R B w' st' v (S ++ [x]) vs xss:=by
 have key:∀ (u:Value),(∀ k,st.ownBlock=some k→u.ownBlock≠some k)→u.ownBlock=none∨u.ownBlock≠st.ownBlock:=fun u hu=>by
  cases e:st.ownBlock with
  | none=>cases e2:u.ownBlock with
   | none=>exact Or.inl rfl
   | some k=>exact Or.inr (by simp)
  | some k=>exact Or.inr (hu k e)
 have old:∀ (u:Value),(∀ k,st.ownBlock=some k→u.ownBlock≠some k)→(∀ k,u.ownBlock=some k→B≤k∧k<w.heap.size)→∀ k,st'.ownBlock=some k→u.ownBlock≠some k:=fun u h1 h2 k hk e=>by
  rcases hs k hk with a|a
  ·exact h1 k a e
  ·have:=(h2 k e).2;omega
 exact⟨ho,h.ov.kept hg (key _ h.sv),h.len,fun i hi=>(h.row i hi).kept hg (key _ (h.sr i hi)),old _ h.sv h.ov.lt,fun i hi=>old _ (h.sr i hi) (h.row i hi).lt,h.vr,h.rr⟩
theorem OwnRR.more {w':World} {v':Value} (ho:OwnV R B 25 1 w' v' (xss.length+1) (vs ++ [nilS])) (hg:w.grownBy w' v.ownBlock) (hs:∀ k,v'.ownBlock=some k→v.ownBlock=some k∨w.heap.size≤k):OwnRR R B w' st v' S (vs ++ [nilS]) (xss ++ [[]]):=by
 have key:∀ (u:Value),(∀ k,v.ownBlock=some k→u.ownBlock≠some k)→u.ownBlock=none∨u.ownBlock≠v.ownBlock:=fun u hu=>by
  cases e:v.ownBlock with
  | none=>cases e2:u.ownBlock with
   | none=>exact Or.inl rfl
   | some k=>exact Or.inr (by simp)
  | some k=>exact Or.inr (hu k e)
 have old:∀ (u:Value),(∀ k,v.ownBlock=some k→u.ownBlock≠some k)→(∀ k,u.ownBlock=some k→B≤k∧k<w.heap.size)→∀ k,v'.ownBlock=some k→u.ownBlock≠some k:=fun u h1 h2 k hk e=>by
  rcases hs k hk with a|a
  ·exact h1 k a e
  ·have:=(h2 k e).2;omega
 have hsv:∀ k,v.ownBlock=some k→st.ownBlock≠some k:=fun k a b=>h.sv k b a
 have hnil:∀ k,nilS.ownBlock=some k→False:=fun k e=>by simp[nilS,Value.ownBlock] at e
 have hcase:∀ i,i<(xss ++ [[]]).length→(i<xss.length∧(vs ++ [nilS]).getD i nilS=vs.getD i nilS∧(xss ++ [[]]).getD i []=xss.getD i [])∨((vs ++ [nilS]).getD i nilS=nilS∧(xss ++ [[]]).getD i []=[]∧i=xss.length):=fun i hi=>by
  rw[getD_app,getD_app,h.len]
  by_cases e:i=xss.length
  ·exact Or.inr ⟨by rw[if_pos e],by rw[if_pos e],e⟩
  ·refine Or.inl ⟨?_,by rw[if_neg e],by rw[if_neg e]⟩
   simp at hi
   omega
 refine⟨h.ost.kept hg (key _ hsv),by rw[List.length_append];exact ho,by simp[h.len],fun i hi=>?_,fun k a b=>old _ hsv h.ost.lt k b a,fun i hi k a=>?_,fun i hi k a=>?_,fun i j hi hj hij k a=>?_⟩
 ·rcases hcase i hi with ⟨c,e1,e2⟩|⟨e1,e2,_⟩
  ·rw[e1,e2];exact (h.row i c).kept hg (key _ (h.vr i c))
  ·rw[e1,e2];exact OwnI.nil R B _ w'
 ·rcases hcase i hi with ⟨c,e1,e2⟩|⟨e1,e2,_⟩
  ·rw[e1];exact h.sr i c k a
  ·rw[e1];exact fun e=>hnil k e
 ·rcases hcase i hi with ⟨c,e1,e2⟩|⟨e1,e2,_⟩
  ·rw[e1];exact old _ (h.vr i c) (h.row i c).lt k a
  ·rw[e1];exact fun e=>hnil k e
 ·rcases hcase i hi with ⟨c,e1,e2⟩|⟨e1,e2,e3⟩
  ·rcases hcase j hj with ⟨c',e1',e2'⟩|⟨e1',e2',_⟩
   ·rw[e1] at a;rw[e1'];exact h.rr i j c c' hij k a
   ·rw[e1'];exact fun e=>hnil k e
  ·rw[e1] at a;exact absurd a (fun e=>hnil k e)
end
theorem OwnRR.push {R:Reg} {B:Nat} {w:World} {st:Value} {g n c:Nat} {S:List Nat} {vs:List Value} {xss:List (List Nat)} (h:OwnRR R B w st (.slice (some ⟨g,0,none⟩) n c) S vs xss) (hn:xss.length=n) {i:Nat} (hi:i<xss.length) {w':World} {u':Value} {x:Nat}
  (ho:OwnI R B 3 w' u' (toI (xss.getD i [] ++ [x]))) (hg:w.grownBy w' (vs.getD i nilS).ownBlock) (hs:∀ k,u'.ownBlock=some k→(vs.getD i nilS).ownBlock=some k∨w.heap.size≤k):
  OwnRR R B (w'.setCell ⟨g,i,none⟩ u') st (.slice (some ⟨g,0,none⟩) n c) S (vs.set i u') (xss.set i (xss.getD i [] ++ [x])):=by
 have hgb:(Value.slice (some ⟨g,0,none⟩) n c).ownBlock=some g:=rfl
 have hglt:=(h.ov.lt g hgb).2
 have key:∀ (u:Value),(∀ k,u.ownBlock=some k→(vs.getD i nilS).ownBlock≠some k)→u.ownBlock=none∨u.ownBlock≠(vs.getD i nilS).ownBlock:=fun u hu=>by
  cases e:u.ownBlock with
  | none=>exact Or.inl rfl
  | some k=>exact Or.inr fun e2=>hu k e e2.symm
 have new:∀ (u:Value),(∀ k,u.ownBlock=some k→(vs.getD i nilS).ownBlock≠some k)→(∀ k,u.ownBlock=some k→B≤k∧k<w.heap.size)→∀ k,u.ownBlock=some k→u'.ownBlock≠some k:=fun u h1 h2 k hk e=>by
  rcases hs k e with a|a
  ·exact h1 k hk a
  ·have:=(h2 k hk).2;omega
 have hst:st.ownBlock≠some g:=fun e=>h.sv g e hgb
 have hu'g:u'.ownBlock≠some g:=new _ (h.vr i hi) h.ov.lt g hgb
 have hil:i<vs.length:=by rw[h.len];exact hi
 have hcase:∀ j,(j=i∧(vs.set i u').getD j nilS=u'∧(xss.set i (xss.getD i [] ++ [x])).getD j []=xss.getD i [] ++ [x])∨(j≠i∧(vs.set i u').getD j nilS=vs.getD j nilS∧(xss.set i (xss.getD i [] ++ [x])).getD j []=xss.getD j []):=fun j=>by
  rw[getD_set hil,getD_set hi]
  by_cases e:j=i
  ·exact Or.inl ⟨e,by rw[if_pos e],by rw[if_pos e]⟩
  ·exact Or.inr ⟨e,by rw[if_neg e],by rw[if_neg e]⟩
 refine⟨(h.ost.kept hg (key _ (h.sr i hi))).setCell hst _,?_,by rw[List.length_set,List.length_set,h.len],fun j hj=>?_,h.sv,fun j hj k a=>?_,fun j hj k a=>?_,fun j l hj hl hjl k a=>?_⟩
 ·rw[List.length_set]
  have h1:=h.ov.kept hg (key _ (h.vr i hi))
  rw[hn] at h1 ⊢
  exact h1.put i u'
 ·rw[List.length_set] at hj
  rcases hcase j with ⟨e,e1,e2⟩|⟨e,e1,e2⟩
  ·rw[e1,e2];exact ho.setCell hu'g _
  ·rw[e1,e2];exact ((h.row j hj).kept hg (key _ (h.rr j i hj hi e))).setCell (fun k=>h.vr j hj g hgb k) _
 ·rw[List.length_set] at hj
  rcases hcase j with ⟨e,e1,e2⟩|⟨e,e1,e2⟩
  ·rw[e1];exact new _ (h.sr i hi) h.ost.lt k a
  ·rw[e1];exact h.sr j hj k a
 ·rw[List.length_set] at hj
  rcases hcase j with ⟨e,e1,e2⟩|⟨e,e1,e2⟩
  ·rw[e1];exact new _ (h.vr i hi) h.ov.lt k a
  ·rw[e1];exact h.vr j hj k a
 ·rw[List.length_set] at hj hl
  rcases hcase j with ⟨e,e1,e2⟩|⟨e,e1,e2⟩
  ·rcases hcase l with ⟨e',e1',e2'⟩|⟨e',e1',e2'⟩
   ·exact absurd (e.trans e'.symm) hjl
   ·rw[e1] at a;rw[e1']
    exact fun b=>new _ (h.rr l i hl hi e') (h.row l hl).lt k b a
  ·rcases hcase l with ⟨e',e1',e2'⟩|⟨e',e1',e2'⟩
   ·rw[e1] at a;rw[e1']
    exact new _ (h.rr j i hj hi e) (h.row j hj).lt k a
   ·rw[e1] at a;rw[e1']
    exact h.rr j l hj hl hjl k a
end
end Go.Proofs.Ytklkgicjfnbndaa
