/- parquetrylaw23: do, awake; GrowNil, the walk: it answers true. -/
import Derived.Test.YtklkgicjfnbndaaGreatZU37
import Derived.Test.YtklkgicjfnbndaaGreatZU14
import Derived.Test.YtklkgicjfnbndaaGreatZU41
namespace Go.Proofs.YtklkgicjfnbndaaGreat
section
open Go.RowKit
set_option linter.unusedVariables false
theorem leaf_nil (w:World) (d:Int):Calls Tryz.prog 43 #[.pointer none,.int .i64 d] w fun e w'=>e=.returned (.tuple #[.pointer none,.int .i64 2])∧∀ R,Inv R w→Ev R w R w':=by
 have H:=Lib.hid (fun w' v=>gof_nil w' v)
 go_enter Tryz.func43,Tryz.ntmps43
 go_wp2_with fail
 refine (H.out _ _).mono ?_
 rintro e w' ⟨rfl,rfl⟩
 go_wp2_with fail
 go_ret2
 exact⟨rfl,fun R h=>(Ev.refl h).alloc _⟩
theorem split_nil (w:World) (d:Int):Calls Tryz.prog 63 #[.pointer none,.int .i64 d] w fun e w'=>e=.returned (.tuple #[.pointer none,.int .i64 2])∧∀ R,Inv R w→Ev R w R w':=by
 have H:=Lib.hid (fun w' v=>gof_nil w' v)
 go_enter Tryz.func63,Tryz.ntmps63
 go_wp2_with fail
 refine (H.out _ _).mono ?_
 rintro e w' ⟨rfl,rfl⟩
 go_wp2_with fail
 go_ret2
 exact⟨rfl,fun R h=>(Ev.refl h).alloc _⟩
theorem star_nil (w:World) (d:Int):Calls Tryz.prog 12 #[.pointer none,.int .i64 d] w fun e w'=>e=.returned (.tuple #[.pointer none,.int .i64 2])∧∀ R,Inv R w→Ev R w R w':=by
 have H:=Lib.hid (fun w' v=>gof_nil w' v)
 go_enter Tryz.func12,Tryz.ntmps12
 go_wp2_with fail
 refine (H.out _ _).mono ?_
 rintro e w' ⟨rfl,rfl⟩
 go_wp2_with fail
 go_ret2
 exact⟨rfl,fun R h=>(Ev.refl h).alloc _⟩
theorem flip_nil (w:World) (d:Int):Calls Tryz.prog 16 #[.pointer none,.int .i64 d] w fun e w'=>e=.returned (.tuple #[.pointer none,.int .i64 2])∧∀ R,Inv R w→Ev R w R w':=by
 have H:=Lib.hid (fun w' v=>gof_nil w' v)
 go_enter Tryz.func16,Tryz.ntmps16
 go_wp2_with fail
 refine (H.out _ _).mono ?_
 rintro e w' ⟨rfl,rfl⟩
 go_wp2_with fail
 go_ret2
 exact⟨rfl,fun R h=>(Ev.refl h).alloc _⟩
theorem chord_nil (w:World) (d d':Int):Calls Tryz.prog 62 #[.pointer none,.int .i64 d,.int .i64 d'] w fun e w'=>e=.returned (.tuple #[.pointer none,.int .i64 2])∧∀ R,Inv R w→Ev R w R w':=by
 have H:=Lib.hid (fun w' v=>gof_nil w' v)
 go_enter Tryz.func62,Tryz.ntmps62
 go_wp2_with fail
 refine (H.out _ _).mono ?_
 rintro e w' ⟨rfl,rfl⟩
 go_wp2_with fail
 go_ret2
 exact⟨rfl,fun R h=>(Ev.refl h).alloc _⟩
def wayR (n way:Nat) (d e:Int):Bool:=match way with|1=>inR n d && inR n e|_=>inR n d
noncomputable def wayB (s:List Nat) (way:Nat) (d e:Int):Bool:=match way with|1=>decide (nameI (phiL s) (atI s d)=nameI (phiL s) (atI s e))|4=>flipB s d.toNat|_=>true
def wayL (s:List Nat) (way:Nat) (d e:Int):List Nat:=match way with|0=>leafL s d.toNat|1=>chordL s d.toNat e.toNat|2=>splitL s d.toNat|3=>starL s d.toNat|_=>flipL s d.toNat
theorem WayPost.two {R:Reg} {w w':World} {a b:Bool} {L:List Nat} {root lone:Int} {e:Ending} (k:WayPost R w a b L root lone e w'):∃ q c,e=.returned (.tuple #[q,.int .i64 c]):=by
 rcases k with ⟨_,h,_⟩|⟨_,_,h,_⟩|⟨_,_,h⟩
 ·exact⟨_,_,h⟩
 ·exact⟨_,_,h⟩
 ·exact h.two
theorem do_nil (w:World) (way:Nat) (hw:way<5) (d d':Int):Calls Tryz.prog 19 #[.pointer none,.int .i64 (way:Int),.int .i64 d,.int .i64 d'] w fun e w'=>e=.returned (.tuple #[.pointer none,.int .i64 2])∧∀ R,Inv R w→Ev R w R w':=by
 have H0:=Lib.hid (fun w'=>leaf_nil w' d)
 have H1:=Lib.hid (fun w'=>chord_nil w' d d')
 have H2:=Lib.hid (fun w'=>split_nil w' d)
 have H3:=Lib.hid (fun w'=>star_nil w' d)
 have H4:=Lib.hid (fun w'=>flip_nil w' d)
 have hc:way=0∨way=1∨way=2∨way=3∨way=4:=by omega
 go_enter Tryz.func19,Tryz.ntmps19
 rcases hc with rfl|rfl|rfl|rfl|rfl
 ·go_wp2_with fail
  refine (H0.out _).mono ?_
  rintro e w' ⟨rfl,he⟩
  go_wp2_with fail
  go_ret2
  exact⟨rfl,he⟩
 ·go_wp2_with fail
  refine (H1.out _).mono ?_
  rintro e w' ⟨rfl,he⟩
  go_wp2_with fail
  go_ret2
  exact⟨rfl,he⟩
 ·go_wp2_with fail
  refine (H2.out _).mono ?_
  rintro e w' ⟨rfl,he⟩
  go_wp2_with fail
  go_ret2
  exact⟨rfl,he⟩
 ·go_wp2_with fail
  refine (H3.out _).mono ?_
  rintro e w' ⟨rfl,he⟩
  go_wp2_with fail
  go_ret2
  exact⟨rfl,he⟩
 ·go_wp2_with fail
  refine (H4.out _).mono ?_
  rintro e w' ⟨rfl,he⟩
  go_wp2_with fail
  go_ret2
  exact⟨rfl,he⟩
theorem do_any (R:Reg) (w:World) (hI:Inv R w) (p:Value) (s:List Nat) (root lone:Int) (hp:MapAt R p s root lone) (way:Nat) (hw:way<5) (d d':Int):
  Calls Tryz.prog 19 #[p,.int .i64 (way:Int),.int .i64 d,.int .i64 d'] w (WayPost R w (wayR s.length way d d') (wayB s way d d') (wayL s way d d') root lone):=by
 have H0:=Lib.hid (leaf_any R w hI p s root lone hp d)
 have H1:=Lib.hid (chord_any R w hI p s root lone hp d d')
 have H2:=Lib.hid (split_any R w hI p s root lone hp d)
 have H3:=Lib.hid (star_any R w hI p s root lone hp d)
 have H4:=Lib.hid (flip_any R w hI p s root lone hp d)
 have hc:way=0∨way=1∨way=2∨way=3∨way=4:=by omega
 clear hI hp
 go_enter Tryz.func19,Tryz.ntmps19
 rcases hc with rfl|rfl|rfl|rfl|rfl
 ·go_wp2_with fail
  refine H0.out.mono ?_
  rintro e w' hpo
  obtain⟨q,c,rfl⟩:=hpo.two
  have HPo:=Lib.hid hpo
  clear hpo
  go_wp2_with fail
  go_ret2
  exact HPo.out
 ·go_wp2_with fail
  refine H1.out.mono ?_
  rintro e w' hpo
  obtain⟨q,c,rfl⟩:=hpo.two
  have HPo:=Lib.hid hpo
  clear hpo
  go_wp2_with fail
  go_ret2
  exact HPo.out
 ·go_wp2_with fail
  refine H2.out.mono ?_
  rintro e w' hpo
  obtain⟨q,c,rfl⟩:=hpo.two
  have HPo:=Lib.hid hpo
  clear hpo
  go_wp2_with fail
  go_ret2
  exact HPo.out
 ·go_wp2_with fail
  refine H3.out.mono ?_
  rintro e w' hpo
  obtain⟨q,c,rfl⟩:=hpo.two
  have HPo:=Lib.hid hpo
  clear hpo
  go_wp2_with fail
  go_ret2
  exact HPo.out
 ·go_wp2_with fail
  refine H4.out.mono ?_
  rintro e w' hpo
  obtain⟨q,c,rfl⟩:=hpo.two
  have HPo:=Lib.hid hpo
  clear hpo
  go_wp2_with fail
  go_ret2
  exact HPo.out
theorem ok01:MapOk [0,1] 0 0:=by unfold MapOk;simp
theorem seed_any (R:Reg) (w:World) (hI:Inv R w):Calls Tryz.prog 33 #[] w fun e w'=>∃ p R',e=.returned p∧Ev R w R' w'∧MapAt R' p [0,1] 0 0:=by
 have H1:=Lib.hid (new_yes R _ (hI.alloc _) _ [0,1] (FreeI.two hI 0 1) 0 0 perm01 ok01)
 have HE:=Lib.hid ((Ev.refl hI).alloc (.cells #[.int .i64 0,.int .i64 1] 3))
 clear hI
 go_enter Tryz.func33,Tryz.ntmps33
 go_wp2_with fail
 refine H1.out.mono ?_
 rintro e w2 ⟨p,R2,rfl,he2,hp⟩
 have HE2:=Lib.hid (HE.out.trans he2)
 have HP:=Lib.hid hp
 clear he2 hp
 go_wp2_with fail
 go_ret
 exact⟨p,R2,rfl,HE2.out,HP.out⟩
theorem leaf01:leafL [0,1] 0=[2,1,0,3]:=by decide
theorem perm2103:IsPerm [2,1,0,3]:=⟨by decide,by decide⟩
theorem sizes2103:(sizesL [2,1,0,3]).length=3:=by decide +kernel
set_option maxRecDepth 100000 in
set_option maxHeartbeats 1000000 in
theorem awake23_any (R:Reg) (w:World) (hI:Inv R w):Calls Tryz.prog 10 #[] w (RetTrue R w):=by
 have HSd:=Lib.hid (seed_any R w hI)
 clear hI
 go_enter Tryz.func10,Tryz.ntmps10
 go_wp2_with fail
 refine HSd.out.mono ?_
 rintro e w1 ⟨p,R1,rfl,he1,hp1⟩
 have HE1:=Lib.hid he1
 have HL:=Lib.hid (leaf_any R1 w1 he1.inv p [0,1] 0 0 hp1 0)
 clear he1 hp1
 go_wp2_with fail
 refine HL.out.mono ?_
 rintro e w2 (⟨h,_⟩|⟨_,h,_⟩|⟨_,_,hk⟩)
 ·exact absurd h (by decide)
 ·cases h
 ·have hk2:NewPost R1 w1 (toI [2,1,0,3]) 0 0 e w2:=by
   have e1:leafL [0,1] (0:Int).toNat=[2,1,0,3]:=leaf01
   rw[←e1];exact hk
  rcases hk2 with ⟨h,_⟩|⟨_,S,q,R2,_,hS,_,rfl,he2,hq⟩
  ·exact absurd (newErr_ok perm2103 (by unfold MapOk;simp)) h
  ·have:=toI_inj hS
   subst this
   have HE2:=Lib.hid (HE1.out.trans he2)
   have HEd:=Lib.hid (edges_any R2 w2 he2.inv q _ 0 0 hq)
   have hv:=vertices_any R2 w2 he2.inv q _ 0 0 hq
   rw[sizes2103] at hv
   have HV:=Lib.hid hv
   clear hk hS he2 hq hv HL HSd
   go_wp2_with fail
   refine HEd.out.mono ?_
   rintro e w' ⟨rfl,rfl⟩
   go_wp2_with fail
   refine HV.out.mono ?_
   rintro e w3 ⟨rfl,R3,he3⟩
   have HE3:=Lib.hid (HE2.out.trans he3)
   clear he3
   go_wp2_with fail
   go_ret
   exact⟨by first|rfl|simp,R3,HE3.out⟩
end
section
set_option linter.unusedVariables false
theorem starL_grown {s:List Nat} (hs:IsPerm s) (hes:s.length % 2=0) {d:Nat} (hd:d<s.length):GrownL s (starL s d) 1 ((orbitL (phiL s) d).length-1)∧(orbitL (phiL s) d).length≤s.length:=by
 obtain⟨k1,k2,k3,_⟩:=star_face hs hes hd rfl
 have h:=star_grown hs hes hd rfl
 unfold starL
 rw[starGo_eq hs k1 k2 _ (Nat.le_refl _),stG_all k3]
 refine⟨h,?_⟩
 have:=List.Nodup.length_le_of_subset k1 (l₂:=List.range s.length) (fun x hx=>List.mem_range.2 (k2 x hx))
 simpa using this
end
section
set_option linter.unusedVariables false
theorem way_err {s:List Nat} (hs:IsPerm s) {root lone:Int} (hok:MapOk s root lone) (hl:s.length≤1000) {k:Nat} (hk:k<5) {d e:Int} (h1:wayR s.length k d e=true) (h2:wayB s k d e=true):newErr (toI (wayL s k d e)) root lone=0:=by
 have he:=hok.1
 have hnat:∀ {x:Int},inR s.length x=true→∃ n:Nat,x=(n:Int)∧n<s.length:=fun {x} h=>by
  unfold inR at h
  have:=of_decide_eq_true h
  exact⟨x.toNat,by omega,by omega⟩
 have hgr:∃ v f,GrownL s (wayL s k d e) v f∧0≤v+f∧v+f≤1000∧0<s.length:=by
  rcases (by omega:k=0∨k=1∨k=2∨k=3∨k=4) with rfl|rfl|rfl|rfl|rfl
  ·obtain⟨D,rfl,hd⟩:=hnat h1
   exact⟨1,0,leaf_grown hs he hd,by decide,by decide,by omega⟩
  ·have h1':(inR s.length d && inR s.length e)=true:=h1
   rw[Bool.and_eq_true] at h1'
   obtain⟨D,rfl,hd⟩:=hnat h1'.1
   obtain⟨E,rfl,he'⟩:=hnat h1'.2
   have h3:nameI (phiL s) (atI s (D:Int))=nameI (phiL s) (atI s (E:Int)):=of_decide_eq_true h2
   rw[atI_in hd,atI_in he',nameI_in (by rw[phiL_length];exact hs.lt hd),nameI_in (by rw[phiL_length];exact hs.lt he')] at h3
   exact⟨0,1,chord_grown hs he hd he' h3,by decide,by decide,by omega⟩
  ·obtain⟨D,rfl,hd⟩:=hnat h1
   exact⟨1,0,split_grown hs he rfl hd,by decide,by decide,by omega⟩
  ·obtain⟨D,rfl,hd⟩:=hnat h1
   have h:=starL_grown hs he hd
   exact⟨1,_,h.1,by omega,by omega,by omega⟩
  ·obtain⟨D,rfl,hd⟩:=hnat h1
   have h3:flipB s D=true:=h2
   unfold flipB at h3
   have hm:=xor_one_lt he hd
   rw[orbI_in (by rw[phiL_length];exact hd),orbI_in (by rw[phiL_length];exact hm),nameI_in (by rw[phiL_length];exact hd),nameI_in (by rw[phiL_length];exact hm),toI_length,toI_length] at h3
   simp only[Bool.and_eq_true,decide_eq_true_eq,Bool.not_eq_true',decide_eq_false_iff_not] at h3
   obtain⟨m,pd,pa,pm,pb,hF⟩:=flipD_of hs he hd h3.1.1.1.1 h3.1.1.1.2 h3.1.1.2 h3.1.2 h3.2
   exact⟨0,0,FlipD.grown hs he hF,by decide,by decide,by omega⟩
 obtain⟨v,f,hgr,hvf,hvf2,h0⟩:=hgr
 have hes:=hgr.es
 have hev:=hgr.even
 obtain⟨o1,o2,o3,o4,o5⟩:=hok
 exact newErr_ok hgr.perm ⟨hev,by omega,o3,o4,Or.inr (by omega)⟩
end
section
set_option linter.unusedVariables false
theorem starL_eq {s:List Nat} (hs:IsPerm s) (hes:s.length % 2=0) {d:Nat} (hd:d<s.length):starL s d=starC s (orbitL (phiL s) d):=by
 obtain⟨k1,k2,k3,_⟩:=star_face hs hes hd rfl
 unfold starL
 rw[starGo_eq hs k1 k2 _ (Nat.le_refl _),stG_all k3]
theorem flipB_D {s:List Nat} (hs:IsPerm s) (hes:s.length % 2=0) {d:Nat} (hd:d<s.length) (h:flipB s d=true):∃ m pd pa pm pb,FlipD s d m pd pa pm pb:=by
 have hm:=xor_one_lt hes hd
 unfold flipB at h
 rw[nameI_in (by rw[phiL_length];exact hd),nameI_in (by rw[phiL_length];exact hm)] at h
 simp only[Bool.and_eq_true,decide_eq_true_eq,Bool.not_eq_true',decide_eq_false_iff_not] at h
 obtain⟨⟨⟨⟨h1,h2⟩,h3⟩,h4⟩,h5⟩:=h
 rw[orbI_in (by rw[phiL_length];exact hd),toI_length] at h1
 rw[orbI_in (by rw[phiL_length];exact hm),toI_length] at h2
 exact flipD_of hs hes hd h1 h2 h3 h4 h5
theorem FlipD.next {s:List Nat} (hs:IsPerm s) (hes:s.length % 2=0) {d m pd pa pm pb m' pd' pa' pm' pb':Nat} (h:FlipD s d m pd pa pm pb) (h':FlipD (flipL s d) d m' pd' pa' pm' pb'):m'=m∧pd'=pb∧pa'=pd∧pm'=pa∧pb'=pm:=by
 obtain⟨n1,n2,n3,n4,n5,n6,n7,n8,n9,n10,n11,n12,n13,n14,n15⟩:=FlipD.ne h
 have hph:=fun {y:Nat} (hy:y<s.length)=>h.phi hs hes hy
 have em:m'=m:=by rw[←h'.dm,h.dm]
 have vd:at' (phiL (flipL s d)) d=pb:=by rw[hph h.dl,if_neg n4,if_pos rfl]
 have vpb:at' (phiL (flipL s d)) pb=pd:=by rw[hph h.pbl,if_neg (Ne.symm n15),if_neg (Ne.symm n5),if_neg (Ne.symm n9),if_neg (Ne.symm n14),if_neg (Ne.symm n12),if_pos rfl]
 have vm:at' (phiL (flipL s d)) m=pa:=by rw[hph h.ml,if_neg n13,if_neg (Ne.symm n3),if_neg (Ne.symm n7),if_pos rfl]
 have vpa:at' (phiL (flipL s d)) pa=pm:=by rw[hph h.pal,if_neg n11,if_neg (Ne.symm n2),if_neg (Ne.symm n6),if_neg n10,if_pos rfl]
 have e1:pd'=pb:=by rw[←h'.fd,vd]
 have e2:pa'=pd:=by rw[←h'.fpd,e1,vpb]
 have e3:pm'=pa:=by rw[←h'.fm,em,vm]
 have e4:pb'=pm:=by rw[←h'.fpm,e3,vpa]
 exact⟨em,e1,e2,e3,e4⟩
theorem flip4 {s:List Nat} (hs:IsPerm s) (hes:s.length % 2=0) {d:Nat} (hd:d<s.length) (b0:flipB s d=true) (b1:flipB (flipL s d) d=true) (b2:flipB (flipL (flipL s d) d) d=true) (b3:flipB (flipL (flipL (flipL s d) d) d) d=true):
  flipL (flipL (flipL (flipL s d) d) d) d=s:=by
 obtain⟨m,pd,pa,pm,pb,h0⟩:=flipB_D hs hes hd b0
 have g0:=h0.grown hs hes
 have l0:=flipL_length s d
 obtain⟨s1,e1⟩:∃ t,flipL s d=t:=⟨_,rfl⟩
 rw[e1] at g0 l0 b1 b2 b3 ⊢
 obtain⟨_,_,_,_,_,h1⟩:=flipB_D g0.perm g0.even (by rw[l0];exact hd) b1
 obtain⟨rfl,rfl,rfl,rfl,rfl⟩:=h0.next hs hes (by rw[e1];exact h1)
 have g1:=h1.grown g0.perm g0.even
 have l1:=flipL_length s1 d
 obtain⟨s2,e2⟩:∃ t,flipL s1 d=t:=⟨_,rfl⟩
 rw[e2] at g1 l1 b2 b3 ⊢
 obtain⟨_,_,_,_,_,h2⟩:=flipB_D g1.perm g1.even (by rw[l1,l0];exact hd) b2
 obtain⟨rfl,rfl,rfl,rfl,rfl⟩:=h1.next g0.perm g0.even (by rw[e2];exact h2)
 have g2:=h2.grown g1.perm g1.even
 have l2:=flipL_length s2 d
 obtain⟨s3,e3⟩:∃ t,flipL s2 d=t:=⟨_,rfl⟩
 rw[e3] at g2 l2 b3 ⊢
 obtain⟨_,_,_,_,_,h3⟩:=flipB_D g2.perm g2.even (by rw[l2,l1,l0];exact hd) b3
 obtain⟨rfl,rfl,rfl,rfl,rfl⟩:=h2.next g1.perm g1.even (by rw[e3];exact h3)
 have l3:=flipL_length s3 d
 have key:∀ y,y<s.length→at' (phiL (flipL s3 d)) y=at' (phiL s) y:=fun y hy=>by
  have y1:y<s1.length:=by rw[l0];exact hy
  have y2:y<s2.length:=by rw[l1];exact y1
  have y3:y<s3.length:=by rw[l2];exact y2
  have p1:=h0.phi hs hes hy
  rw[e1] at p1
  have p2:=h1.phi g0.perm g0.even y1
  rw[e2] at p2
  have p3:=h2.phi g1.perm g1.even y2
  rw[e3] at p3
  rw[h3.phi g2.perm g2.even y3]
  split
  ·rename_i c;rw[c,h0.fpb]
  ·split
   ·rename_i c;rw[c,h0.fd]
   ·split
    ·rename_i c;rw[c,h0.fpa]
    ·split
     ·rename_i c;rw[c,h0.fm]
     ·split
      ·rename_i c;rw[c,h0.fpm]
      ·split
       ·rename_i c;rw[c,h0.fpd]
       ·rename_i c1 c2 c3 c4 c5 c6
        rw[p3,if_neg c3,if_neg c2,if_neg c5,if_neg c4,if_neg c6,if_neg c1,p2,if_neg c6,if_neg c2,if_neg c1,if_neg c4,if_neg c3,if_neg c5,p1,if_neg c5,if_neg c2,if_neg c6,if_neg c4,if_neg c3,if_neg c1]
 have hl:(flipL s3 d).length=s.length:=by rw[l3,l2,l1,l0]
 refine List.ext_getElem hl fun y h1 h2=>?_
 rw[←at'_eq h1,←at'_eq h2]
 have k:=key (y ^^^ 1) (xor_one_lt hes h2)
 rw[phiL_at (by rw[hl];exact xor_one_lt hes h2),phiL_at (xor_one_lt hes h2),xor_one_one] at k
 exact k
theorem size_pos {s:List Nat} (hs:IsPerm s) {v:Nat} (hv:v<(sizesL s).length):1≤nth (sizesL s) v:=by
 have h1:(sizesL s).length=(namesGo s s.length).2:=by rw[←sizesGo_all,sizesGo_length hs _ (Nat.le_refl _)]
 obtain⟨j,hj,e,_⟩:=(namesL_ord hs).has (Nat.le_refl _) v (by rw[←h1];exact hv)
 rw[orbit_size hs hj e]
 have:0<(orbitL s j).length:=by unfold orbitL;simp
 omega
end
end Go.Proofs.YtklkgicjfnbndaaGreat
