/- Triangulations (simple, of one part, all faces of three) are kept by a star in a face, and by a flip that joins two that aren't joined. -/
import Derived.Test.YtgphnkkdmlohlaaGreatDoorZWoodNo25
import Derived.Test.YtgphnkkdmlohlaaGreatDoorZWoodNo26
import Derived.Test.YtgphnkkdmlohlaaGreatDoorZWoodNo06
namespace Go.Proofs.YtgphnkkdmlohlaaGreatDoor
section
set_option linter.unusedVariables false
structure TriS (s:List Nat):Prop where
 perm:IsPerm s
 even:s.length % 2=0
 big:3≤(sizesL s).length
 three:∀ x,x<s.length→at' (phiL s) (at' (phiL s) (at' (phiL s) x))=x∧at' (phiL s) x≠x
 loop:∀ x,x<s.length→nth (namesL s) x≠nth (namesL s) (x ^^^ 1)
 dbl:∀ x y,x<s.length→y<s.length→nth (namesL s) x=nth (namesL s) y→nth (namesL s) (x ^^^ 1)=nth (namesL s) (y ^^^ 1)→x=y
 parts:partsN s=1
 genus:genusL s=0
theorem names_turn {s:List Nat} (hs:IsPerm s) {x:Nat} (hx:x<s.length):nth (namesL s) (at' s x)=nth (namesL s) x:=
 ((cyc_at hs).1 ⟨hx,hs.lt hx,1,rfl⟩).2.2.symm
theorem simp_of {s:List Nat} (hs:IsPerm s) (v:Nat→Int) (h1:∀ x,x<s.length→v (at' s x)=v x) (h2:∀ x,x<s.length→v x≠v (x ^^^ 1)) (hes:s.length % 2=0)
  (h3:∀ x y,x<s.length→y<s.length→v x=v y→v (x ^^^ 1)=v (y ^^^ 1)→x=y):
  (∀ x,x<s.length→nth (namesL s) x≠nth (namesL s) (x ^^^ 1))∧∀ x y,x<s.length→y<s.length→nth (namesL s) x=nth (namesL s) y→nth (namesL s) (x ^^^ 1)=nth (namesL s) (y ^^^ 1)→x=y:=by
 have go:∀ j x,x<s.length→itf (at' s) j x<s.length∧v (itf (at' s) j x)=v x:=by
  intro j
  induction j with
  | zero=>exact fun x hx=>⟨hx,rfl⟩
  | succ j ih=>
   intro x hx
   obtain⟨a,b⟩:=ih x hx
   rw[itf_succ]
   exact⟨hs.lt a,by rw[h1 _ a,b]⟩
 have key:∀ x y,x<s.length→y<s.length→nth (namesL s) x=nth (namesL s) y→v x=v y:=fun x y hx hy e=>by
  obtain⟨_,_,j,hj⟩:=(cyc_at hs).2 ⟨hx,hy,e⟩
  rw[←hj]
  exact (go j x hx).2.symm
 exact⟨fun x hx e=>h2 x hx (key _ _ hx (xor_one_lt hes hx) e),fun x y hx hy e1 e2=>h3 x y hx hy (key _ _ hx hy e1) (key _ _ (xor_one_lt hes hx) (xor_one_lt hes hy) e2)⟩
theorem names_phi {s:List Nat} (hs:IsPerm s) (hes:s.length % 2=0) {x:Nat} (hx:x<s.length):nth (namesL s) (at' (phiL s) x)=nth (namesL s) (x ^^^ 1):=by
 rw[phiL_at hx]
 exact names_turn hs (xor_one_lt hes hx)
section
variable {s : List Nat} (h : TriS s)
include h
theorem TriS.phl {x:Nat} (hx:x<s.length):at' (phiL s) x<s.length:=by
 have:=(phiL_perm h.perm h.even).lt (i:=x) (by rw[phiL_length];exact hx)
 rwa [phiL_length] at this
theorem TriS.nomate {x:Nat} (hx:x<s.length):at' (phiL s) x≠x ^^^ 1:=fun e=>by
 have hm:=xor_one_lt h.even hx
 have h3:=(h.three x hx).1
 rw[e] at h3
 have n1:=names_phi h.perm h.even hm
 rw[xor_one_one] at n1
 have hc:=h.phl hm
 have n2:=names_phi h.perm h.even hc
 rw[h3] at n2
 exact h.loop _ hc (by rw[n1,n2])
theorem TriS.orb {x:Nat} (hx:x<s.length):orbitL (phiL s) x=[x,at' (phiL s) x,at' (phiL s) (at' (phiL s) x)]:=by
 have hp:=phiL_perm h.perm h.even
 have hx':x<(phiL s).length:=by rw[phiL_length];exact hx
 obtain⟨c,hc,hcl,ho⟩:=orbitL_map hp hx'
 have nd:=orbitL_nodup hp hx'
 obtain⟨a,b⟩:=h.three x hx
 have e0:it (phiL s) 0 x=x:=rfl
 have e1:it (phiL s) 1 x=at' (phiL s) x:=rfl
 have e2:it (phiL s) 2 x=at' (phiL s) (at' (phiL s) x):=rfl
 have e3:it (phiL s) 3 x=x:=a
 have c1:c≠1:=fun e=>b (by rw[e] at hcl;exact hcl)
 have c2:c≠2:=fun e=>by
  rw[e] at hcl
  have h2:at' (phiL s) (it (phiL s) 2 x)=at' (phiL s) x:=by rw[hcl]
  rw[e2,a] at h2
  exact b h2.symm
 have c4:¬ 4≤c:=fun e=>by
  rw[ho] at nd
  have:=nodup_inj nd (i:=0) (j:=3) (by simp;omega) (by simp;omega) (by simp[e0,e3])
  omega
 rw[ho,show c=3 by omega]
 simp[List.range_succ,e0,e1,e2]
theorem TriS.flipD {d:Nat} (hd:d<s.length):∃ m pd pa pm pb,FlipD s d m pd pa pm pb:=by
 have hm:=xor_one_lt h.even hd
 have hp:=phiL_perm h.perm h.even
 have n1:=h.nomate hd
 have n2:=h.nomate hm
 rw[xor_one_one] at n2
 refine flipD_of h.perm h.even hd (by rw[h.orb hd];rfl) (by rw[h.orb hm];rfl) (fun e=>?_) (fun e=>?_) (fun e=>?_)
 ·have:(d ^^^ 1)∈orbitL (phiL s) d:=(names_orbit hp (by rw[phiL_length];exact hd)).2 ⟨by rw[phiL_length];exact hm,e.symm⟩
  rw[h.orb hd] at this
  simp only[List.mem_cons,List.not_mem_nil,or_false] at this
  rcases this with e1|e1|e1
  ·exact xor_one_ne d e1
  ·exact n1 e1.symm
  ·exact n2 (by rw[e1];exact (h.three d hd).1)
 ·exact n2 (by rw[phiL_at hm,xor_one_one];exact e)
 ·exact n1 (by rw[phiL_at hd];exact e)
theorem TriS.flip {d:Nat} (hd:d<s.length) (h1:nth (namesL s) (at' (phiL s) (at' (phiL s) d))≠nth (namesL s) (at' (phiL s) (at' (phiL s) (d ^^^ 1))))
  (h2:∀ x,x<s.length→¬ (nth (namesL s) x=nth (namesL s) (at' (phiL s) (at' (phiL s) d))∧nth (namesL s) (x ^^^ 1)=nth (namesL s) (at' (phiL s) (at' (phiL s) (d ^^^ 1))))):TriS (flipL s d):=by
 obtain⟨m,pd,pa,pm,pb,hf⟩:=h.flipD hd
 have hg:=hf.grown h.perm h.even
 have hne:=hf.ne
 have hl:=flipL_length s d
 rw[hf.dm,hf.fd,hf.fpd,hf.fm,hf.fpm] at h1
 rw[hf.dm,hf.fd,hf.fpd,hf.fm,hf.fpm] at h2
 have hph:=fun {y:Nat} (hy:y<s.length)=>hf.phi h.perm h.even hy
 have hat:=fun {y:Nat} (hy:y<s.length)=>hf.at_ h.perm h.even hy
 obtain⟨n1,n2,n3,n4,n5,n6,n7,n8,n9,n10,n11,n12,n13,n14,n15⟩:=hne
 have nm:=fun {x:Nat} (hx:x<s.length)=>names_phi h.perm h.even hx
 have k1:=nm hf.dl
 have k2:=nm hf.pdl
 have k3:=nm hf.pal
 have k4:=nm hf.ml
 have k5:=nm hf.pml
 have k6:=nm hf.pbl
 rw[hf.fd,hf.dm] at k1
 rw[hf.fpd] at k2
 rw[hf.fpa] at k3
 rw[hf.fm,hf.md] at k4
 rw[hf.fpm] at k5
 rw[hf.fpb] at k6
 have hsimp:=simp_of hg.perm (fun x=>if x=d then nth (namesL s) pa else if x=m then nth (namesL s) pb else nth (namesL s) x)
  (fun x hx=>by
   rw[hl] at hx
   rw[hat hx]
   have xinj:∀ {a b},a≠b→a ^^^ 1≠b ^^^ 1:=fun {a b} hab e=>hab (by rw[←xor_one_one a,e,xor_one_one])
   by_cases c1:x=pm ^^^ 1
   ·have xm:x≠m:=by rw[c1,←hf.dm];exact xinj (Ne.symm n4)
    have xd:x≠d:=by rw[c1,←hf.md];exact xinj (Ne.symm n13)
    rw[if_pos c1,if_neg (Ne.symm n3),if_pos rfl,if_neg xd,if_neg xm,c1]
    exact k5
   rw[if_neg c1]
   by_cases c2:x=m
   ·rw[if_pos c2,if_neg (Ne.symm n5),if_neg (Ne.symm n14),c2,if_neg (Ne.symm n3),if_pos rfl]
   rw[if_neg c2]
   by_cases c3:x=pd ^^^ 1
   ·have xd:x≠d:=by rw[c3,←hf.md];exact xinj n7
    rw[if_pos c3,if_pos rfl,if_neg xd,if_neg c2,c3]
    exact k2
   rw[if_neg c3]
   by_cases c4:x=d
   ·rw[if_pos c4,if_neg (Ne.symm n2),if_neg n10,if_pos c4]
   rw[if_neg c4]
   rw[if_neg c4,if_neg c2]
   by_cases c5:x=pa ^^^ 1
   ·rw[if_pos c5,if_neg (Ne.symm n4),if_neg (Ne.symm n13),c5]
    rw[k4];exact k3
   rw[if_neg c5]
   by_cases c6:x=pb ^^^ 1
   ·rw[if_pos c6,if_neg (Ne.symm n1),if_neg n7,c6]
    rw[k1];exact k6
   rw[if_neg c6]
   have bd:=(FlipD.back h.perm h.even hf.pal hf.fpa).2
   have bm:=(FlipD.back h.perm h.even hf.pbl hf.fpb).2
   rw[if_neg (fun e=>c5 (h.perm.inj hx (xor_one_lt h.even hf.pal) (by rw[e,bd]))),if_neg (fun e=>c6 (h.perm.inj hx (xor_one_lt h.even hf.pbl) (by rw[e,bm])))]
   exact names_turn h.perm hx)
  (fun x hx=>by
   rw[hl] at hx
   have e1:x ^^^ 1=d↔x=m:=⟨fun e=>by rw[←xor_one_one x,e,hf.dm],fun e=>by rw[e,hf.md]⟩
   have e2:x ^^^ 1=m↔x=d:=⟨fun e=>by rw[←xor_one_one x,e,hf.md],fun e=>by rw[e,hf.dm]⟩
   simp only[e1,e2]
   by_cases c1:x=d
   ·rw[if_pos c1,if_neg (by rw[c1];exact n3),if_pos c1];exact h1
   rw[if_neg c1]
   by_cases c2:x=m
   ·rw[if_pos c2,if_pos c2];exact Ne.symm h1
   rw[if_neg c2,if_neg c2,if_neg c1]
   exact h.loop x hx)
  hg.even
  (fun x y hx hy=>by
   rw[hl] at hx hy
   have e1:∀ x,x ^^^ 1=d↔x=m:=fun x=>⟨fun e=>by rw[←xor_one_one x,e,hf.dm],fun e=>by rw[e,hf.md]⟩
   have e2:∀ x,x ^^^ 1=m↔x=d:=fun x=>⟨fun e=>by rw[←xor_one_one x,e,hf.md],fun e=>by rw[e,hf.dm]⟩
   simp only[e1,e2]
   have nm':m≠d:=Ne.symm n3
   by_cases c1:x=d
   ·subst c1
    rw[if_pos rfl,if_neg n3,if_pos rfl]
    by_cases c2:y=x
    ·exact fun _ _=>c2.symm
    rw[if_neg c2]
    by_cases c3:y=m
    ·rw[if_pos c3,if_pos c3];exact fun a _=>absurd a h1
    rw[if_neg c3,if_neg c3,if_neg c2]
    exact fun a b=>absurd ⟨a.symm,b.symm⟩ (h2 y hy)
   rw[if_neg c1]
   by_cases c2:x=m
   ·subst c2
    rw[if_pos rfl,if_pos rfl]
    by_cases c3:y=d
    ·rw[if_pos c3];exact fun a _=>absurd a.symm h1
    rw[if_neg c3]
    by_cases c4:y=x
    ·exact fun _ _=>c4.symm
    rw[if_neg c4,if_neg c4,if_neg c3]
    exact fun a b=>absurd ⟨b.symm,by rw[xor_one_one];exact a.symm⟩ (h2 (y ^^^ 1) (xor_one_lt h.even hy))
   rw[if_neg c2,if_neg c2,if_neg c1]
   by_cases c3:y=d
   ·rw[if_pos c3,if_neg (by rw[c3];exact n3),if_pos c3]
    exact fun a b=>absurd ⟨a,b⟩ (h2 x hx)
   rw[if_neg c3]
   by_cases c4:y=m
   ·rw[if_pos c4,if_pos c4]
    exact fun a b=>absurd ⟨b,by rw[xor_one_one];exact a⟩ (h2 (x ^^^ 1) (xor_one_lt h.even hx))
   rw[if_neg c4,if_neg c4,if_neg c3]
   exact h.dbl x y hx hy)
 refine⟨hg.perm,hg.even,?_,fun x hx=>?_,hsimp.1,hsimp.2,by rw[hg.parts];exact h.parts,by rw[hg.genus h.perm h.even];exact h.genus⟩
 ·have:=hg.vs
  have:=h.big
  omega
 ·rw[hl] at hx
  have vd:at' (phiL (flipL s d)) d=pb:=by rw[hph hf.dl,if_neg n4,if_pos rfl]
  have vpb:at' (phiL (flipL s d)) pb=pd:=by rw[hph hf.pbl,if_neg (Ne.symm n15),if_neg (Ne.symm n5),if_neg (Ne.symm n9),if_neg (Ne.symm n14),if_neg (Ne.symm n12),if_pos rfl]
  have vpd:at' (phiL (flipL s d)) pd=d:=by rw[hph hf.pdl,if_neg n8,if_neg (Ne.symm n1),if_pos rfl]
  have vm:at' (phiL (flipL s d)) m=pa:=by rw[hph hf.ml,if_neg n13,if_neg (Ne.symm n3),if_neg (Ne.symm n7),if_pos rfl]
  have vpa:at' (phiL (flipL s d)) pa=pm:=by rw[hph hf.pal,if_neg n11,if_neg (Ne.symm n2),if_neg (Ne.symm n6),if_neg n10,if_pos rfl]
  have vpm:at' (phiL (flipL s d)) pm=m:=by rw[hph hf.pml,if_pos rfl]
  by_cases c1:x=pm
  ·rw[c1,vpm,vm,vpa];exact⟨rfl,n13⟩
  by_cases c2:x=d
  ·rw[c2,vd,vpb,vpd];exact⟨rfl,Ne.symm n5⟩
  by_cases c3:x=pd
  ·rw[c3,vpd,vd,vpb];exact⟨rfl,n1⟩
  by_cases c4:x=m
  ·rw[c4,vm,vpa,vpm];exact⟨rfl,n10⟩
  by_cases c5:x=pa
  ·rw[c5,vpa,vpm,vm];exact⟨rfl,Ne.symm n11⟩
  by_cases c6:x=pb
  ·rw[c6,vpb,vpd,vd];exact⟨rfl,n9⟩
  have out:∀ {y},y<s.length→y≠pm→y≠d→y≠pd→y≠m→y≠pa→y≠pb→at' (phiL (flipL s d)) y=at' (phiL s) y:=fun {y} hy a1 a2 a3 a4 a5 a6=>by
   rw[hph hy,if_neg a1,if_neg a2,if_neg a3,if_neg a4,if_neg a5,if_neg a6]
  have stay:∀ {y},y<s.length→y≠pm→y≠d→y≠pd→y≠m→y≠pa→y≠pb→at' (phiL s) y<s.length∧at' (phiL s) y≠pm∧at' (phiL s) y≠d∧at' (phiL s) y≠pd∧at' (phiL s) y≠m∧at' (phiL s) y≠pa∧at' (phiL s) y≠pb:=fun {y} hy a1 a2 a3 a4 a5 a6=>by
   have inj:∀ {a b},b<s.length→at' (phiL s) b=a→y≠b→at' (phiL s) y≠a:=fun {a b} hb e ne e'=>ne ((phiL_perm h.perm h.even).inj (by rw[phiL_length];exact hy) (by rw[phiL_length];exact hb) (by rw[e',e]))
   exact⟨h.phl hy,inj hf.ml hf.fm a4,inj hf.pal hf.fpa a5,inj hf.dl hf.fd a2,inj hf.pbl hf.fpb a6,inj hf.pdl hf.fpd a3,inj hf.pml hf.fpm a1⟩
  obtain⟨b0,b1,b2,b3,b4,b5,b6⟩:=stay hx c1 c2 c3 c4 c5 c6
  obtain⟨d0,d1,d2,d3,d4,d5,d6⟩:=stay b0 b1 b2 b3 b4 b5 b6
  rw[out hx c1 c2 c3 c4 c5 c6,out b0 b1 b2 b3 b4 b5 b6,out d0 d1 d2 d3 d4 d5 d6]
  exact h.three x hx
theorem TriS.star {d:Nat} (hd:d<s.length):TriS (starC s (orbitL (phiL s) d)):=by
 obtain⟨k1,k2,k3,k4,k5,_⟩:=star_face h.perm h.even hd rfl
 have hg:=star_grown h.perm h.even hd rfl
 have he:=fun {j} (hj:j<(orbitL (phiL s) d).length)=>star_phi_edge h.perm h.even hd rfl hj
 have hold:=fun {y} (hy:y<s.length) (ho:y∉orbitL (phiL s) d)=>star_phi_old h.perm h.even hd rfl hy ho
 have hO3:(orbitL (phiL s) d).length=3:=by rw[h.orb hd];rfl
 obtain⟨O,hO⟩:∃ O,orbitL (phiL s) d=O:=⟨_,rfl⟩
 rw[hO] at k1 k2 k3 k4 k5 hg he hold hO3 ⊢
 have hl:(starC s O).length=s.length+6:=by rw[starC_length,hO3]
 have hOm:∀ j,j<3→at' O j∈O:=fun j hj=>by rw[at'_eq (by omega)];exact List.getElem_mem _
 have hOl:∀ j,j<3→at' O j<s.length:=fun j hj=>k2 _ (hOm j hj)
 have hOi:∀ x,x∈O→O.idxOf x<3∧at' O (O.idxOf x)=x:=fun x hx=>by
  have:=List.idxOf_lt_length_iff.2 hx
  exact⟨by omega,by rw[at'_eq this];exact List.getElem_idxOf this⟩
 have hin:=fun {j} (hj:j<3)=>star_phi_in (s:=s) (O:=O) h.even (j:=j) (by omega)
 have hout:=fun {j} (hj:j<3)=>star_phi_out (s:=s) (O:=O) h.even (j:=j) (by omega)
 rw[hO3] at k4 he hin
 have dist:∀ j,j<3→nth (namesL s) (at' O (nextI 3 j))≠nth (namesL s) (at' O j):=fun j hj=>by
  rw[←k4 j hj,names_phi h.perm h.even (hOl j hj)]
  exact Ne.symm (h.loop _ (hOl j hj))
 have hd3:∀ i j,i<3→j<3→nth (namesL s) (at' O i)=nth (namesL s) (at' O j)→i=j:=fun i j hi hj e=>by
  have d0:=dist 0 (by omega)
  have d1:=dist 1 (by omega)
  have d2:=dist 2 (by omega)
  rw[show nextI 3 0=1 from rfl] at d0
  rw[show nextI 3 1=2 from rfl] at d1
  rw[show nextI 3 2=0 from rfl] at d2
  rcases (by omega:i=0∨i=1∨i=2) with rfl|rfl|rfl <;> rcases (by omega:j=0∨j=1∨j=2) with rfl|rfl|rfl
  ·rfl
  ·exact absurd e.symm d0
  ·exact absurd e d2
  ·exact absurd e d0
  ·rfl
  ·exact absurd e.symm d1
  ·exact absurd e.symm d2
  ·exact absurd e d1
  ·rfl
 have hpos:∀ x,x<s.length→nth (namesL s) x≠-1:=fun x hx=>by have:=(names_lt h.perm hx).1;omega
 have hodd:∀ k,(s.length+2*k) ^^^ 1=s.length+2*k+1:=fun k=>xor_add (n:=s.length+2*k) (k:=0) (by have:=h.even;omega) (by omega)
 have hevn:∀ k,(s.length+2*k+1) ^^^ 1=s.length+2*k:=fun k=>xor_add (n:=s.length+2*k) (k:=1) (by have:=h.even;omega) (by omega)
 obtain⟨v,hv⟩:∃ v:Nat→Int,v=fun x=>if x<s.length then nth (namesL s) x else if (x-s.length) % 2=0 then nth (namesL s) (at' O ((x-s.length) / 2)) else -1:=⟨_,rfl⟩
 have v0:∀ x,x<s.length→v x=nth (namesL s) x:=fun x hx=>by rw[hv];exact if_pos hx
 have v1:∀ k,v (s.length+2*k)=nth (namesL s) (at' O k):=fun k=>by
  rw[hv]
  show (if _ then _ else if _ then _ else _)=_
  rw[if_neg (by omega),if_pos (by omega),show (s.length+2*k-s.length) / 2=k by omega]
 have v2:∀ k,v (s.length+2*k+1)=-1:=fun k=>by
  rw[hv]
  show (if _ then _ else if _ then _ else _)=_
  rw[if_neg (by omega),if_neg (by omega)]
 have cases3:∀ x,x<s.length+6→x<s.length∨(∃ k,k<3∧x=s.length+2*k)∨∃ k,k<3∧x=s.length+2*k+1:=fun x hx=>by
  by_cases c:x<s.length
  ·exact Or.inl c
  by_cases c2:(x-s.length) % 2=0
  ·exact Or.inr (Or.inl ⟨(x-s.length) / 2,by omega,by omega⟩)
  ·exact Or.inr (Or.inr ⟨(x-s.length) / 2,by omega,by omega⟩)
 have hsimp:=simp_of hg.perm v
  (fun x hx=>by
   rw[hl] at hx
   rw[starC_at (by omega)]
   unfold starF
   rcases cases3 x hx with hx|⟨k,hk,rfl⟩|⟨k,hk,rfl⟩
   ·rw[if_pos hx,v0 x hx]
    split
    ·rename_i hm
     rw[v1,(hOi _ hm).2]
     exact names_turn h.perm hx
    ·rw[v0 _ (h.perm.lt hx)]
     exact names_turn h.perm hx
   ·rw[if_neg (by omega),if_pos (by omega),show (s.length+2*k-s.length) / 2=k by omega,v1,v0 _ (hOl k hk)]
   ·rw[if_neg (by omega),if_neg (by omega),v2,v2])
  (fun x hx=>by
   rw[hl] at hx
   rcases cases3 x hx with hx|⟨k,hk,rfl⟩|⟨k,hk,rfl⟩
   ·rw[v0 x hx,v0 _ (xor_one_lt h.even hx)];exact h.loop x hx
   ·rw[hodd,v1,v2];exact hpos _ (hOl k hk)
   ·rw[hevn,v1,v2];exact Ne.symm (hpos _ (hOl k hk)))
  hg.even
  (fun x y hx hy=>by
   rw[hl] at hx hy
   rcases cases3 x hx with hx|⟨k,hk,rfl⟩|⟨k,hk,rfl⟩ <;> rcases cases3 y hy with hy|⟨j,hj,rfl⟩|⟨j,hj,rfl⟩
   ·rw[v0 x hx,v0 y hy,v0 _ (xor_one_lt h.even hx),v0 _ (xor_one_lt h.even hy)];exact h.dbl x y hx hy
   ·rw[hodd,v2,v0 _ (xor_one_lt h.even hx)];exact fun _ b=>absurd b (hpos _ (xor_one_lt h.even hx))
   ·rw[v2,v0 x hx];exact fun b=>absurd b (hpos _ hx)
   ·rw[hodd,v2,v0 _ (xor_one_lt h.even hy)];exact fun _ b=>absurd b.symm (hpos _ (xor_one_lt h.even hy))
   ·rw[v1,v1];exact fun a _=>by rw[hd3 k j hk hj a]
   ·rw[v1,v2];exact fun a=>absurd a (hpos _ (hOl k hk))
   ·rw[v2,v0 y hy];exact fun b=>absurd b.symm (hpos _ hy)
   ·rw[v1,v2];exact fun a=>absurd a.symm (hpos _ (hOl j hj))
   ·rw[hevn,hevn,v1,v1];exact fun _ a=>by rw[hd3 k j hk hj a])
 refine⟨hg.perm,hg.even,?_,fun x hx=>?_,hsimp.1,hsimp.2,by rw[hg.parts];exact h.parts,by rw[hg.genus h.perm h.even];exact h.genus⟩
 ·have:=hg.vs
  have:=h.big
  omega
 ·rw[hl] at hx
  have hnj:∀ k,k<3→∃ j,j<3∧nextI 3 j=k:=fun k hk=>by
   rcases (by omega:k=0∨k=1∨k=2) with rfl|rfl|rfl
   ·exact⟨2,by omega,rfl⟩
   ·exact⟨0,by omega,rfl⟩
   ·exact⟨1,by omega,rfl⟩
  have hnl:∀ j,j<3→nextI 3 j<3:=fun j hj=>nextI_lt hj
  rcases cases3 x hx with hx|⟨k,hk,rfl⟩|⟨k,hk,rfl⟩
  ·by_cases hm:x∈O
   ·obtain⟨hi,hie⟩:=hOi x hm
    have:=hnl _ hi
    rw[←hie,he (by omega),hin hi,hout hi]
    have:=hOl _ hi
    exact⟨rfl,by omega⟩
   ·have h1:=h.phl hx
    have m1:at' (phiL s) x∉O:=fun e=>hm ((k5 x hx).1 e)
    have h2:=h.phl h1
    have m2:at' (phiL s) (at' (phiL s) x)∉O:=fun e=>m1 ((k5 _ h1).1 e)
    rw[hold hx hm,hold h1 m1,hold h2 m2]
    exact h.three x hx
  ·obtain⟨j,hj,rfl⟩:=hnj k hk
   rw[hin hj,hout hj,he (by omega)]
   exact⟨rfl,by omega⟩
  ·have:=hOl k hk
   rw[hout hk,he (by omega),hin hk]
   exact⟨rfl,by omega⟩
theorem TriS.tri_to {n:Nat} (hn:n≤s.length):triTo s n=true:=by
 induction n with
 | zero=>rfl
 | succ n ih=>
  unfold triTo
  obtain⟨a,b⟩:=h.three n (by omega)
  rw[ih (by omega),beq_iff_eq.2 a,beq_eq_false_iff_ne.2 b]
  rfl
theorem TriS.simp_b:simpB s=true:=by
 refine sparse_simp ?_
 unfold sparse
 rw[List.all_eq_true]
 intro e he
 have he:=List.mem_range.1 he
 have hev:=h.even
 have e1:∀ e,(2*e) ^^^ 1=2*e+1:=fun e=>xor_add (n:=2*e) (k:=0) (by omega) (by omega)
 have e2:∀ e,(2*e+1) ^^^ 1=2*e:=fun e=>xor_add (n:=2*e) (k:=1) (by omega) (by omega)
 rw[Bool.and_eq_true,List.all_eq_true]
 refine⟨bne_iff_ne.2 (by have:=h.loop (2*e) (by omega);rwa [e1] at this),fun f hf=>?_⟩
 have hf:=List.mem_range.1 hf
 have d1:¬ (nth (namesL s) (2*f)=nth (namesL s) (2*e)∧nth (namesL s) (2*f+1)=nth (namesL s) (2*e+1)):=fun a=>by
  have:=h.dbl (2*f) (2*e) (by omega) (by omega) a.1 (by rw[e1,e1];exact a.2)
  omega
 have d2:¬ (nth (namesL s) (2*f)=nth (namesL s) (2*e+1)∧nth (namesL s) (2*f+1)=nth (namesL s) (2*e)):=fun a=>by
  have:=h.dbl (2*f) (2*e+1) (by omega) (by omega) a.1 (by rw[e1,e2];exact a.2)
  omega
 rw[Bool.not_eq_true',Bool.or_eq_false_iff,Bool.and_eq_false_iff,Bool.and_eq_false_iff]
 simp only[beq_eq_false_iff_ne]
 exact⟨Decidable.not_and_iff_or_not.1 d1,Decidable.not_and_iff_or_not.1 d2⟩
theorem TriS.tri_b:triB s 0=true:=by
 have:=h.big
 unfold triB
 rw[h.simp_b,h.tri_to (Nat.le_refl _),decide_eq_true (by omega),decide_eq_true (by have:=h.parts;omega),h.genus]
 rfl
end
theorem triS_one:TriS [5,2,1,4,3,0]:=by
 refine⟨⟨by decide,by decide⟩,rfl,by decide +kernel,by decide +kernel,by decide +kernel,?_,by decide +kernel,by decide +kernel⟩
 have:∀ x,x<6→∀ y,y<6→nth (namesL [5,2,1,4,3,0]) x=nth (namesL [5,2,1,4,3,0]) y→nth (namesL [5,2,1,4,3,0]) (x ^^^ 1)=nth (namesL [5,2,1,4,3,0]) (y ^^^ 1)→x=y:=by decide +kernel
 exact fun x y hx hy=>this x hx y hy
end
section
set_option linter.unusedVariables false
set_option linter.unusedSectionVars false
theorem cls_any (r:Nat→Nat→Prop) (n:Nat):cls r Any n=tally (Least r) n:=tally_congr fun _ _=>⟨fun h=>h.2,fun h=>⟨trivial,h⟩⟩
section
variable {s : List Nat} (h : TriS s)
include h
theorem TriS.simp:Simp s.length (at' s):=by
 have hp:=phiL_perm h.perm h.even
 have hphi:=h.perm.pm.phi h.even
 refine⟨h.perm.pm,h.even,?_,fun x hx hc=>h.loop x hx ((cyc_at h.perm).1 hc).2.2,fun x y hx hy h1 h2=>h.dbl x y hx hy ((cyc_at h.perm).1 h1).2.2 ((cyc_at h.perm).1 h2).2.2⟩
 have e1:cls (cyc s.length (at' s)) Any s.length=(sizesL s).length:=by
  rw[cls_any,(namesL_ord h.perm).cnt_eq (Nat.le_refl _) |>.symm]
  rw[←sizesGo_all,sizesGo_length h.perm _ (Nat.le_refl _)]
 have e2:cls (cyc s.length (phiF (at' s))) Any s.length=(sizesL (phiL s)).length:=by
  rw[cls_congr (q:=cyc s.length (at' (phiL s))) fun x y _ _=>cyc_congr hphi fun z hz=>(phiL_at hz).symm,cls_any,←(phi_ord h.perm h.even).cnt_eq (Nat.le_refl _)]
  have:=sizesGo_length hp _ (Nat.le_refl _)
  rw[sizesGo_all,phiL_length] at this
  exact this.symm
 have e3:cls (conF s.length (at' s)) Any s.length≤1:=by
  have k1:=cls_le (n:=s.length) (P:=Any) (r:=Con s) (q:=conF s.length (at' s)) fun x y hc=>Con.sub h.perm (conF_per _ _) (fun z hz=>conF_step h.perm.pm hz) (fun z hz=>conF_mate h.even hz) hc
  rw[cls_any (Con s),←(partsL_ord h.perm h.even).cnt_eq (Nat.le_refl _)] at k1
  have k2:=h.parts
  unfold partsN at k2
  omega
 have e4:=euler_plane h.perm h.even h.parts h.genus
 unfold PlanF
 rw[e1,e2]
 omega
theorem TriS.phi_at {x:Nat} (hx:x<s.length):at' (phiL s) x=at' s (x ^^^ 1):=phiL_at hx
theorem TriS.tri {x:Nat} (hx:x<s.length):at' s (at' (phiL s) (at' s x) ^^^ 1)=x ^^^ 1∧at' s (x ^^^ 1)=(at' (phiL s) x ^^^ 1) ^^^ 1:=by
 have hm:=xor_one_lt h.even hx
 have h1:at' (phiL s) (x ^^^ 1)=at' s x:=by rw[phiL_at hm,xor_one_one]
 refine⟨?_,by rw[xor_one_one,phiL_at hx]⟩
 have h2:=(h.three _ hm).1
 rw[h1] at h2
 rw[←phiL_at (h.phl (h.perm.lt hx))]
 exact h2
end
end
section
set_option linter.unusedVariables false
set_option linter.unusedSectionVars false
def Adjs:Nat→List Nat→Nat→Nat→Prop
 | _,[],_,_=>False
 | p,q :: l,u,v=>(u=p∧v=q)∨Adjs q l u v
theorem adjs_mem {u v:Nat}:∀ {p:Nat} {l:List Nat},Adjs p l u v→(u=p∨u∈l)∧v∈l
 | p,q :: l,.inl ⟨e1,e2⟩=>⟨.inl e1,by rw[e2];simp⟩
 | p,q :: l,.inr h=>by
  obtain⟨h1,h2⟩:=adjs_mem h
  exact⟨.inr (by rcases h1 with rfl|h1 <;> simp[*]),by simp[h2]⟩
theorem adjs_get:∀ (p:Nat) (l:List Nat) (i:Nat) (hi:i<l.length),Adjs p l ((p :: l).getD i 0) (l.getD i 0)
 | p,q :: l,0,_=>Or.inl ⟨rfl,rfl⟩
 | p,q :: l,i+1,hi=>Or.inr (by
  have:=adjs_get q l i (by simpa using hi)
  simpa using this)
theorem getD_at {l:List Nat} {i:Nat} (h:i<l.length):l.getD i 0=l[i]:=by rw[List.getD_eq_getElem?_getD,List.getElem?_eq_getElem h];rfl
theorem nodup_idx {l:List Int} (h:l.Nodup) {i j:Nat} (hi:i<l.length) (hj:j<l.length) (e:l[i]=l[j]):i=j:=by
 have hp:=List.pairwise_iff_getElem.1 h
 rcases Nat.lt_trichotomy i j with q|q|q
 ·exact absurd e (hp i j hi hj q)
 ·exact q
 ·exact absurd e.symm (hp j i hj hi q)
section
variable (s : List Nat) (G : Nat → Prop)
def OutJ (p q:Nat):Prop:=∃ j,0<j∧itf (at' s) j q=p ^^^ 1∧∀ l,0<l→l<j→G (itf (at' s) l q ^^^ 1)
def InnJ (p q:Nat):Prop:=∃ j,itf (at' s) j (p ^^^ 1)=q∧(∀ l,l<j→itf (at' s) l (p ^^^ 1)≠q)∧∀ l,0<l→l<j→¬ G (itf (at' s) l (p ^^^ 1) ^^^ 1)
structure Shl (c:Nat) (A:List Nat):Prop where
 lt:∀ x,x∈A ++ [c]→x<s.length
 ne:A≠[]
 one:((A ++ [c]).map fun x=>nth (namesL s) x).Nodup
 live:∀ x,x∈A ++ [c]→¬ G x
 turn:∀ x y,x<s.length→y<s.length→nth (namesL s) x=nth (namesL s) y→G x→G y
 outer:∀ p q,Adjs c (A ++ [c]) p q→OutJ s G p q
 inner:∀ p q,Adjs c (A ++ [c]) p q→InnJ s G p q
 edge:∀ d,d<s.length→¬ G d→G (d ^^^ 1)→∃ x,x∈A ++ [c]∧nth (namesL s) d=nth (namesL s) x
end
section
variable {s : List Nat} (h : TriS s) {G : Nat → Prop} {c : Nat} {A : List Nat} (hS : Shl s G c A)
include h hS
theorem Shl.next {p q:Nat} (ha:Adjs c (A ++ [c]) p q):nth (namesL s) (p ^^^ 1)=nth (namesL s) q:=by
 obtain⟨j,_,e,_⟩:=hS.outer p q ha
 have hq:=hS.lt q (adjs_mem ha).2
 have hp:p<s.length:=by
  rcases (adjs_mem ha).1 with rfl|k
  ·exact hS.lt _ (by simp)
  ·exact hS.lt _ k
 exact (((cyc_at h.perm).1 ⟨hq,xor_one_lt h.even hp,j,e⟩).2.2).symm
theorem Shl.rim (h2:2≤A.length):Rim s.length (at' s) A.length (fun i=>(A ++ [c]).getD i 0):=by
 have hin:∀ i,i≤A.length→(A ++ [c]).getD i 0∈A ++ [c]:=fun i hi=>by
  have:i<(A ++ [c]).length:=by simp;omega
  rw[getD_at this]
  exact List.getElem_mem this
 refine⟨h2,fun i hi=>hS.lt _ (hin i hi),fun i j hi hj hc=>?_,fun i hi=>?_⟩
 ·have e:=((cyc_at h.perm).1 hc).2.2
  have li:i<((A ++ [c]).map fun x=>nth (namesL s) x).length:=by simp;omega
  have lj:j<((A ++ [c]).map fun x=>nth (namesL s) x).length:=by simp;omega
  have li':i<(A ++ [c]).length:=by simp;omega
  have lj':j<(A ++ [c]).length:=by simp;omega
  rw[getD_at li',getD_at lj'] at e
  exact nodup_idx hS.one li lj (by rw[List.getElem_map,List.getElem_map];exact e)
 ·have hadj:Adjs c (A ++ [c]) ((A ++ [c]).getD (prI A.length i) 0) ((A ++ [c]).getD i 0):=by
   have:=adjs_get c (A ++ [c]) i (by simp;omega)
   have e:(c :: (A ++ [c])).getD i 0=(A ++ [c]).getD (prI A.length i) 0:=by
    unfold prI
    split
    ·next e=>subst e;simp[List.getD]
    ·next e=>
     obtain⟨k,rfl⟩:∃ k,i=k+1:=⟨i-1,by omega⟩
     simp
   rw[e] at this
   exact this
  obtain⟨j,j1,j2,j3⟩:=hS.outer _ _ hadj
  refine⟨j,j1,j2,fun l l1 l2 ho=>?_⟩
  obtain⟨i',hi',hc'⟩:=ho
  obtain⟨k1,k2,k3⟩:=(cyc_at h.perm).1 hc'
  exact hS.live _ (hin i' hi') (hS.turn _ _ k2 k1 k3.symm (j3 l l1 l2))
theorem Shl.onB {x:Nat}:onB s.length (at' s) A.length (fun i=>(A ++ [c]).getD i 0) x↔x<s.length∧∃ y,y∈A ++ [c]∧nth (namesL s) x=nth (namesL s) y:=by
 constructor
 ·rintro⟨i,hi,hc⟩
  obtain⟨k1,k2,k3⟩:=(cyc_at h.perm).1 hc
  have:i<(A ++ [c]).length:=by simp;omega
  refine⟨k2,_,?_,k3.symm⟩
  dsimp only
  rw[getD_at this]
  exact List.getElem_mem this
 ·rintro⟨hx,y,hy,e⟩
  obtain⟨i,hi,ei⟩:=List.getElem_of_mem hy
  refine⟨i,by simp at hi;omega,(cyc_at h.perm).2 ⟨?_,hx,?_⟩⟩
  ·dsimp only
   rw[getD_at hi,ei]
   exact hS.lt y hy
  ·dsimp only
   rw[getD_at hi,ei,e]
def FreeD (s A:List Nat) (c p q:Nat):Prop:=∀ x,x<s.length→nth (namesL s) x=nth (namesL s) q→(∃ y,y∈A ++ [c]∧nth (namesL s) (x ^^^ 1)=nth (namesL s) y)→x=q∨x=p ^^^ 1
theorem Shl.some_free (h2:2≤A.length):∃ i,0<i∧i<A.length∧FreeD s A c (A.getD (i-1) 0) (A.getD i 0):=by
 obtain⟨i,i1,i2,i3⟩:=(hS.rim h h2).free h.simp
 have ea:∀ j,j<A.length→(A ++ [c]).getD j 0=A.getD j 0:=fun j hj=>by
  rw[List.getD_eq_getElem?_getD,List.getD_eq_getElem?_getD,List.getElem?_append_left hj]
 refine⟨i,i1,i2,fun x hx e ho=>?_⟩
 have hl:(A ++ [c]).getD i 0<s.length:=(hS.rim h h2).lt i (by omega)
 have:=i3 x ((cyc_at h.perm).2 ⟨hl,hx,by rw[ea i i2];exact e.symm⟩) ((hS.onB h).2 ⟨xor_one_lt h.even hx,ho⟩)
 rw[ea i i2,ea (i-1) (by omega)] at this
 exact this
end
end
section
set_option linter.unusedVariables false
set_option linter.unusedSectionVars false
theorem adjs_app {u v:Nat}:∀ {p:Nat} {l1 l2:List Nat},Adjs p (l1 ++ l2) u v↔Adjs p l1 u v∨Adjs (l1.getLastD p) l2 u v
 | p,[],l2=>by simp[Adjs]
 | p,x :: l1,l2=>by
  simp only[List.cons_append,Adjs]
  rw[adjs_app (p:=x) (l1:=l1),or_assoc]
  cases l1 <;> simp[List.getLastD]
theorem range_last (z:Nat→Nat) (p J:Nat):((List.range (J+1)).map z).getLastD p=z J:=by
 rw[List.range_succ,List.map_append,List.getLastD_eq_getLast?]
 simp
theorem adjs_range {z:Nat→Nat} {p u v:Nat}:∀ {J:Nat},Adjs p ((List.range J).map z) u v→(u=p∧v=z 0)∨∃ i,i+1<J∧u=z i∧v=z (i+1)
 | 0,h=>by simp[Adjs] at h
 | J+1,h=>by
  rw[List.range_succ,List.map_append,adjs_app] at h
  rcases h with h|h
  ·rcases adjs_range h with h|⟨i,h1,h2⟩
   ·exact Or.inl h
   ·exact Or.inr ⟨i,by omega,h2⟩
  ·simp only[List.map_cons,List.map_nil,Adjs,or_false] at h
   cases J with
   | zero=>exact Or.inl (by simpa [List.getLastD] using h)
   | succ J=>
    rw[range_last] at h
    exact Or.inr ⟨J,by omega,h.1,h.2⟩
def midZ (s:List Nat) (p i:Nat):Nat:=at' (phiL s) (itf (at' s) (i+1) (p ^^^ 1)) ^^^ 1
def goneL (s:List Nat) (G:Nat→Prop) (q x:Nat):Prop:=G x∨(x<s.length∧nth (namesL s) x=nth (namesL s) q)
section
variable {s : List Nat} (h : TriS s) {G : Nat → Prop} {c : Nat} {A : List Nat} (hS : Shl s G c A) {P Q : List Nat} {p q : Nat} (hA : A = P ++ p :: q :: Q) (hF : FreeD s A c p q)
include h hS hA hF
theorem Shl.step:∃ J,0<J∧itf (at' s) J (p ^^^ 1)=q∧(∀ l,l<J→itf (at' s) l (p ^^^ 1)≠q)∧Shl s (goneL s G q) c (P ++ (List.range J).map (midZ s p) ++ Q):=by
 obtain⟨q',R,hR⟩:∃ q' R,Q ++ [c]=q' :: R:=by
  cases Q with
  | nil=>exact⟨c,[],rfl⟩
  | cons a t=>exact⟨a,t ++ [c],rfl⟩
 have hL:A ++ [c]=P ++ p :: q :: q' :: R:=by rw[hA,←hR];simp
 have hcR:c∈q' :: R:=by rw[←hR];simp
 have mem:∀ x,x∈A ++ [c]↔x∈P∨x=p∨x=q∨x=q'∨x∈R:=fun x=>by rw[hL];simp
 have hm:∀ {x},x<s.length→x ^^^ 1<s.length:=fun hx=>xor_one_lt h.even hx
 have lt:∀ x,x∈P∨x=p∨x=q∨x=q'∨x∈R→x<s.length:=fun x k=>hS.lt x ((mem x).2 k)
 have hp:p<s.length:=lt p (.inr (.inl rfl))
 have hq:q<s.length:=lt q (.inr (.inr (.inl rfl)))
 have hq':q' < s.length:=lt q' (.inr (.inr (.inr (.inl rfl))))
 have hc:c<s.length:=hS.lt c (by simp)
 obtain⟨nm,hnm⟩:∃ nm:Nat→Int,nm=fun x=>nth (namesL s) x:=⟨_,rfl⟩
 have hnm':∀ x,nth (namesL s) x=nm x:=fun x=>by rw[hnm]
 have nd:=hS.one
 rw[hL,←hnm,List.map_append,List.map_cons,List.map_cons,List.map_cons] at nd
 obtain⟨nd1,nd2,nd3⟩:=List.nodup_append.1 nd
 obtain⟨np,nd4⟩:=List.nodup_cons.1 nd2
 obtain⟨nq,nd5⟩:=List.nodup_cons.1 nd4
 obtain⟨nq',nd6⟩:=List.nodup_cons.1 nd5
 have sepP:∀ x,x∈P→∀ y,y=p∨y=q∨y=q'∨y∈R→nm x≠nm y:=fun x hx y hy=>nd3 _ (List.mem_map_of_mem hx) _ (by
  rcases hy with rfl|rfl|rfl|hy
  ·simp
  ·simp
  ·simp
  ·simp only[List.mem_cons];exact Or.inr (Or.inr (Or.inr (List.mem_map_of_mem hy))))
 have sepp:∀ y,y=q∨y=q'∨y∈R→nm p≠nm y:=fun y hy e=>np (by
  rw[e]
  rcases hy with rfl|rfl|hy
  ·simp
  ·simp
  ·simp only[List.mem_cons];exact Or.inr (Or.inr (List.mem_map_of_mem hy)))
 have sepq:∀ y,y=q'∨y∈R→nm q≠nm y:=fun y hy e=>nq (by
  rw[e]
  rcases hy with rfl|hy
  ·simp
  ·simp only[List.mem_cons];exact Or.inr (List.mem_map_of_mem hy))
 have sepR:∀ y,y∈R→nm q'≠nm y:=fun y hy e=>nq' (by rw[e];exact List.mem_map_of_mem hy)
 have chain:∀ u v,Adjs c (A ++ [c]) u v↔Adjs c P u v∨(u=P.getLastD c∧v=p)∨(u=p∧v=q)∨(u=q∧v=q')∨Adjs q' R u v:=fun u v=>by
  rw[hL,adjs_app]
  simp only[Adjs]
 have next:∀ {u v},Adjs c (A ++ [c]) u v→nm (u ^^^ 1)=nm v:=fun {u v} k=>by rw[←hnm',←hnm'];exact hS.next h k
 obtain⟨p',hp'⟩:∃ p',P.getLastD c=p':=⟨_,rfl⟩
 rw[hp'] at chain
 have apq:=(chain p q).2 (.inr (.inr (.inl ⟨rfl,rfl⟩)))
 have app:=(chain p' p).2 (.inr (.inl ⟨rfl,rfl⟩))
 have aqq:=(chain q q').2 (.inr (.inr (.inr (.inl ⟨rfl,rfl⟩))))
 have p'mem:p'∈P∨p'∈q' :: R:=by
  rw[←hp',List.getLastD_eq_getLast?]
  cases hl:P.getLast? with
  | none=>exact Or.inr hcR
  | some a=>exact Or.inl (List.mem_of_getLast? hl)
 have p'lt:p' < s.length:=by
  rcases p'mem with k|k
  ·exact lt _ (.inl k)
  ·rcases List.mem_cons.1 k with k|k
   ·exact lt _ (.inr (.inr (.inr (.inl k))))
   ·exact lt _ (.inr (.inr (.inr (.inr k))))
 have p'q:nm p'≠nm q:=by
  rcases p'mem with k|k
  ·exact sepP _ k _ (.inr (.inl rfl))
  ·rcases List.mem_cons.1 k with k|k
   ·exact fun e=>sepq _ (.inl rfl) (by rw[←e,k])
   ·exact fun e=>sepq _ (.inr k) e.symm
 have turnN:∀ {x},x<s.length→nm (at' s x)=nm x:=fun {x} hx=>by rw[←hnm',←hnm'];exact names_turn h.perm hx
 have itN:∀ {x} (j:Nat),x<s.length→nm (itf (at' s) j x)=nm x∧itf (at' s) j x<s.length:=fun {x} j hx=>by
  induction j with
  | zero=>exact⟨rfl,hx⟩
  | succ j ih=>rw[itf_succ];exact⟨by rw[turnN ih.2,ih.1],h.perm.lt ih.2⟩
 have dbl:∀ {x y},x<s.length→y<s.length→nm x=nm y→nm (x ^^^ 1)=nm (y ^^^ 1)→x=y:=fun {x y} hx hy e1 e2=>h.dbl x y hx hy (by rw[hnm',hnm'];exact e1) (by rw[hnm',hnm'];exact e2)
 have loop:∀ {x},x<s.length→nm (x ^^^ 1)≠nm x:=fun {x} hx e=>h.loop x hx (by rw[hnm',hnm'];exact e.symm)
 have turnG:∀ {x y},x<s.length→y<s.length→nm x=nm y→G x→G y:=fun {x y} hx hy e=>hS.turn x y hx hy (by rw[hnm',hnm'];exact e)
 have free:∀ x,x<s.length→nm x=nm q→(∃ y,y∈A ++ [c]∧nm (x ^^^ 1)=nm y)→x=q∨x=p ^^^ 1:=fun x hx e ⟨y,hy,e2⟩=>hF x hx (by rw[hnm',hnm'];exact e) ⟨y,hy,by rw[hnm',hnm'];exact e2⟩
 have npm:nm (p ^^^ 1)=nm q:=next apq
 have nqm:nm (q ^^^ 1)=nm q':=next aqq
 have npp:nm (p' ^^^ 1)=nm p:=next app
 obtain⟨J,J1,J2,J3⟩:=hS.inner p q apq
 have hpm:=hm hp
 have hJ:0<J:=by
  rcases Nat.eq_zero_or_pos J with e|k
  ·subst e
   have J1:p ^^^ 1=q:=J1
   have:=nqm
   rw[←J1,xor_one_one] at this
   exact absurd this (sepp _ (.inr (.inl rfl)))
  ·exact k
 obtain⟨X,hX⟩:∃ X:Nat→Nat,X=fun i=>itf (at' s) i (p ^^^ 1):=⟨_,rfl⟩
 have X0:X 0=p ^^^ 1:=by rw[hX];rfl
 have XJ:X J=q:=by rw[hX];exact J1
 have Xs:∀ i,X (i+1)=at' s (X i):=fun i=>by rw[hX];exact itf_succ _ _ _
 have Xl:∀ i,X i<s.length:=fun i=>by rw[hX];exact (itN i hpm).2
 have Xn:∀ i,nm (X i)=nm q:=fun i=>by rw[hX,←npm];exact (itN i hpm).1
 have Xq:∀ i,i<J→X i≠q:=fun i hi=>by rw[hX];exact J2 i hi
 have Xinj:∀ i j,i<j→j≤J→X i≠X j:=fun i j hij hj e=>by
  have e2:itf (at' s) i (p ^^^ 1)=itf (at' s) i (itf (at' s) (j-i) (p ^^^ 1)):=by
   rw[←itf_add,show i+(j-i)=j by omega]
   rw[hX] at e
   exact e
  have e3:=h.perm.pm.itInj hpm (itN _ hpm).2 i e2
  have e4:itf (at' s) J (p ^^^ 1)=itf (at' s) (J-(j-i)) (p ^^^ 1):=by
   rw[←show J-(j-i)+(j-i)=J by omega,itf_add,←e3,show J-(j-i)+(j-i)-(j-i)=J-(j-i) by omega]
  exact J2 (J-(j-i)) (by omega) (by rw[←e4];exact J1)
 obtain⟨z,hz⟩:∃ z:Nat→Nat,z=midZ s p:=⟨_,rfl⟩
 have zX:∀ i,z i=at' (phiL s) (X (i+1)) ^^^ 1:=fun i=>by rw[hz,hX];rfl
 have zl:∀ i,z i<s.length:=fun i=>by rw[zX];exact hm (h.phl (Xl _))
 have z1:∀ i,at' s (z i)=X i ^^^ 1:=fun i=>by rw[zX,Xs];exact (h.tri (Xl i)).1
 have z2:∀ i,at' s (X (i+1) ^^^ 1)=z i ^^^ 1:=fun i=>by rw[zX];exact (h.tri (Xl (i+1))).2
 have zn:∀ i,nm (z i)=nm (X i ^^^ 1):=fun i=>by rw[←z1,turnN (zl i)]
 have zn0:nm (z 0)=nm p:=by rw[zn,X0,xor_one_one]
 have Xb:∀ i,0<i→i<J→∀ y,y∈A ++ [c]→nm (X i ^^^ 1)≠nm y:=fun i h1 h2 y hy e=>by
  rcases free (X i) (Xl i) (Xn i) ⟨y,hy,e⟩ with k|k
  ·exact Xq i h2 k
  ·rw[←X0] at k
   exact Xinj 0 i h1 (by omega) k.symm
 have XG:∀ i,i<J→¬ G (X i ^^^ 1):=fun i hi k=>by
  rcases Nat.eq_zero_or_pos i with e|h1
  ·subst e
   rw[X0,xor_one_one] at k
   exact hS.live p ((mem p).2 (.inr (.inl rfl))) k
  ·rw[hX] at k
   exact J3 i h1 hi k
 have zG:∀ i,i<J→¬ goneL s G q (z i):=fun i hi k=>by
  rcases k with k|⟨_,k⟩
  ·exact XG i hi (turnG (zl i) (hm (Xl i)) (zn i) k)
  ·rw[hnm',hnm',zn,←Xn i] at k
   exact loop (Xl i) k
 have Gq:∀ {x},x<s.length→nm x=nm q→goneL s G q x:=fun {x} hx e=>.inr ⟨hx,by rw[hnm',hnm'];exact e⟩
 have chain':∀ u v,Adjs c ((P ++ (List.range J).map z ++ Q) ++ [c]) u v→Adjs c P u v∨(u=p'∧v=z 0)∨(∃ i,i+1<J∧u=z i∧v=z (i+1))∨(u=z (J-1)∧v=q')∨Adjs q' R u v:=fun u v k=>by
  rw[List.append_assoc,List.append_assoc,hR,adjs_app,adjs_app,hp'] at k
  rcases k with k|k|k
  ·exact .inl k
  ·rcases adjs_range k with k|k
   ·exact .inr (.inl k)
   ·exact .inr (.inr (.inl k))
  ·have e:((List.range J).map z).getLastD p'=z (J-1):=by
    obtain⟨j,rfl⟩:∃ j,J=j+1:=⟨J-1,by omega⟩
    exact range_last z p' j
   rw[e] at k
   rcases k with k|k
   ·exact .inr (.inr (.inr (.inl k)))
   ·exact .inr (.inr (.inr (.inr k)))
 have mem':∀ x,x∈(P ++ (List.range J).map z ++ Q) ++ [c]↔x∈P∨(∃ i,i<J∧z i=x)∨x=q'∨x∈R:=fun x=>by
  rw[List.append_assoc,hR]
  simp
 refine⟨J,hJ,J1,J2,?_⟩
 rw[←hz]
 have mono:∀ {u v},OutJ s G u v→OutJ s (goneL s G q) u v:=fun ⟨j,a,b,d⟩=>⟨j,a,b,fun l l1 l2=>.inl (d l l1 l2)⟩
 have keepI:∀ {u v},Adjs c (A ++ [c]) u v→nm v≠nm p→nm v≠nm q'→InnJ s (goneL s G q) u v:=fun {u v} ha n1 n2=>by
  obtain⟨j,a,b,d⟩:=hS.inner u v ha
  have hv:=hS.lt v (adjs_mem ha).2
  have hu:u<s.length:=by
   rcases (adjs_mem ha).1 with rfl|k
   ·exact hc
   ·exact hS.lt _ k
  refine⟨j,a,b,fun l l1 l2 k=>?_⟩
  rcases k with k|⟨k1,k2⟩
  ·exact d l l1 l2 k
  ·rw[hnm',hnm'] at k2
   obtain⟨y1,y2⟩:=itN l (hm hu)
   rw[next ha] at y1
   rcases free _ k1 k2 ⟨v,(adjs_mem ha).2,by rw[xor_one_one];exact y1⟩ with e|e
   ·have:=congrArg (· ^^^ 1) e
    simp only[xor_one_one] at this
    rw[this,nqm] at y1
    exact n2 y1.symm
   ·have:=congrArg (· ^^^ 1) e
    simp only[xor_one_one] at this
    rw[this] at y1
    exact n1 y1.symm
 have inL:∀ {u v},Adjs c P u v→v∈P:=fun k=>(adjs_mem k).2
 have inR:∀ {u v},Adjs q' R u v→v∈R:=fun k=>(adjs_mem k).2
 constructor
 ·intro x hx
  rcases (mem' x).1 hx with k|⟨i,_,rfl⟩|k|k
  ·exact lt x (.inl k)
  ·exact zl i
  ·exact lt x (.inr (.inr (.inr (.inl k))))
  ·exact lt x (.inr (.inr (.inr (.inr k))))
 ·intro e
  have:=congrArg List.length e
  simp at this
  omega
 ·rw[List.append_assoc,hR,←hnm,List.map_append,List.map_append,List.nodup_append]
  refine⟨List.nodup_append.2 ⟨nd1,?_,?_⟩,nd5,?_⟩
  ·rw[List.map_map]
   refine List.pairwise_map.2 (List.Pairwise.imp_of_mem (fun {i j} hi hj hij=>?_) (List.pairwise_lt_range (n:=J)))
   intro e
   simp only[Function.comp_apply,zn] at e
   have:=dbl (Xl i) (Xl j) (by rw[Xn,Xn]) e
   exact Xinj i j hij (Nat.le_of_lt (List.mem_range.1 hj)) this
  ·intro a ha b hb
   obtain⟨x,hx,rfl⟩:=List.mem_map.1 ha
   obtain⟨y,hy,rfl⟩:=List.mem_map.1 hb
   obtain⟨i,hi,rfl⟩:=List.mem_map.1 hy
   have hi:=List.mem_range.1 hi
   intro e
   rcases Nat.eq_zero_or_pos i with e0|h1
   ·subst e0
    rw[zn0] at e
    exact sepP x hx p (.inl rfl) e
   ·rw[zn] at e
    exact Xb i h1 hi x ((mem x).2 (.inl hx)) e.symm
  ·intro a ha b hb
   obtain⟨y,hy,rfl⟩:=List.mem_map.1 hb
   rcases List.mem_append.1 ha with ha|ha
   ·obtain⟨x,hx,rfl⟩:=List.mem_map.1 ha
    exact sepP x hx y (.inr (.inr (List.mem_cons.1 hy)))
   ·obtain⟨x,hx,rfl⟩:=List.mem_map.1 ha
    obtain⟨i,hi,rfl⟩:=List.mem_map.1 hx
    have hi:=List.mem_range.1 hi
    intro e
    rcases Nat.eq_zero_or_pos i with e0|h1
    ·subst e0
     rw[zn0] at e
     exact sepp y (.inr (List.mem_cons.1 hy)) e
    ·rw[zn] at e
     exact Xb i h1 hi y ((mem y).2 (.inr (.inr (.inr (List.mem_cons.1 hy))))) e
 ·intro x hx k
  have old:x∈A ++ [c]→nm x≠nm q→False:=fun h1 h2=>by
   rcases k with k|⟨_,k⟩
   ·exact hS.live x h1 k
   ·rw[hnm',hnm'] at k;exact h2 k
  rcases (mem' x).1 hx with k1|⟨i,hi,rfl⟩|k1|k1
  ·exact old ((mem x).2 (.inl k1)) (sepP x k1 q (.inr (.inl rfl)))
  ·exact zG i hi k
  ·exact old ((mem x).2 (.inr (.inr (.inr (.inl k1))))) (fun e=>sepq x (.inl k1) e.symm)
  ·exact old ((mem x).2 (.inr (.inr (.inr (.inr k1))))) (fun e=>sepq x (.inr k1) e.symm)
 ·intro x y hx hy e k
  rcases k with k|⟨_,k⟩
  ·exact .inl (hS.turn x y hx hy e k)
  ·exact .inr ⟨hy,by rw[←e,k]⟩
 ·intro u v ha
  rcases chain' u v ha with k|⟨rfl,rfl⟩|⟨i,hi,rfl,rfl⟩|⟨rfl,rfl⟩|k
  ·exact mono (hS.outer u v ((chain u v).2 (.inl k)))
  ·obtain⟨j,a,b,d⟩:=hS.outer _ _ app
   have e1:at' s (z 0)=p:=by rw[z1,X0,xor_one_one]
   refine⟨j+1,by omega,by show itf (at' s) j (at' s (z 0))=_;rw[e1];exact b,fun l l1 l2=>?_⟩
   obtain⟨l,rfl⟩:∃ m,l=m+1:=⟨l-1,by omega⟩
   show goneL s G q (itf (at' s) l (at' s (z 0)) ^^^ 1)
   rw[e1]
   rcases Nat.eq_zero_or_pos l with e0|h1
   ·subst e0
    exact Gq hpm npm
   ·exact .inl (d l h1 (by omega))
  ·refine⟨2,by omega,?_,fun l l1 l2=>?_⟩
   ·show at' s (at' s (z (i+1)))=_
    rw[z1,z2]
   ·obtain rfl:l=1:=by omega
    show goneL s G q (at' s (z (i+1)) ^^^ 1)
    rw[z1,xor_one_one]
    exact Gq (Xl _) (Xn _)
  ·obtain⟨j,a,b,d⟩:=hS.outer _ _ aqq
   have e1:at' s (q ^^^ 1)=z (J-1) ^^^ 1:=by
    have:=z2 (J-1)
    rw[show J-1+1=J by omega,XJ] at this
    exact this
   refine⟨j+1,by omega,by rw[itf_succ,b,e1],fun l l1 l2=>?_⟩
   rcases Nat.lt_or_ge l j with k|k
   ·exact .inl (d l l1 k)
   ·obtain rfl:l=j:=by omega
    rw[b,xor_one_one]
    exact Gq hq rfl
  ·exact mono (hS.outer u v ((chain u v).2 (.inr (.inr (.inr (.inr k))))))
 ·intro u v ha
  rcases chain' u v ha with k|⟨rfl,rfl⟩|⟨i,hi,rfl,rfl⟩|⟨rfl,rfl⟩|k
  ·exact keepI ((chain u v).2 (.inl k)) (sepP v (inL k) p (.inl rfl)) (sepP v (inL k) q' (.inr (.inr (.inl rfl))))
  ·obtain⟨j,a,b,d⟩:=hS.inner _ _ app
   have hp'm:=hm p'lt
   have hj:0<j:=by
    rcases Nat.eq_zero_or_pos j with e|k
    ·subst e
     have a:u ^^^ 1=p:=a
     have e2:=npm
     rw[←a,xor_one_one] at e2
     exact absurd e2 p'q
    ·exact k
   have e1:at' s (z 0)=p:=by rw[z1,X0,xor_one_one]
   have e2:itf (at' s) (j-1) (u ^^^ 1)=z 0:=by
    refine h.perm.inj (itN _ hp'm).2 (zl 0) ?_
    rw[e1,←itf_succ (at' s),show j-1+1=j by omega,a]
   refine⟨j-1,e2,fun l l1 e=>b (l+1) (by omega) (by rw[itf_succ,e,e1]),fun l l1 l2 k=>?_⟩
   rcases k with k|⟨k1,k2⟩
   ·exact d l l1 (by omega) k
   ·rw[hnm',hnm'] at k2
    obtain⟨y1,y2⟩:=itN l hp'm
    exact b l (by omega) (dbl y2 hp (by rw[y1,npp]) (by rw[k2,npm]))
  ·have hx:∀ y,y<s.length→nm y=nm (X (i+1) ^^^ 1)→¬ G (y ^^^ 1):=fun y hy e k=>by
    have hyG:¬ G y:=fun k'=>XG (i+1) hi (turnG hy (hm (Xl _)) e k')
    obtain⟨w,w1,w2⟩:=hS.edge y hy hyG k
    rw[hnm',hnm',e] at w2
    exact Xb (i+1) (by omega) hi w w1 w2
   have n1:nm (z i ^^^ 1)=nm (X (i+1) ^^^ 1):=by rw[←z2,turnN (hm (Xl _))]
   have n2:nm (z (i+1))=nm (X (i+1) ^^^ 1):=zn (i+1)
   obtain⟨_,_,j,hj⟩:=(cyc_at h.perm).2 ⟨hm (zl i),zl (i+1),by rw[hnm',hnm',n1,n2]⟩
   obtain⟨m,_,m2,m3⟩:=least_nat (p:=fun j=>itf (at' s) j (z i ^^^ 1)=z (i+1)) j hj
   refine⟨m,m2,m3,fun l l1 l2 k=>?_⟩
   obtain⟨y1,y2⟩:=itN l (hm (zl i))
   rcases k with k|⟨k1,k2⟩
   ·exact hx _ y2 (by rw[y1,n1]) k
   ·rw[hnm',hnm'] at k2
    have e:=dbl y2 (hm (Xl (i+1))) (by rw[y1,n1]) (by rw[k2,xor_one_one,Xn])
    refine m3 (l-1) (by omega) (h.perm.inj (itN _ (hm (zl i))).2 (zl _) ?_)
    rw[z1,←itf_succ (at' s),show l-1+1=l by omega,e]
  ·obtain⟨j,a,b,d⟩:=hS.inner _ _ aqq
   have hqm:=hm hq
   have hj:0<j:=by
    rcases Nat.eq_zero_or_pos j with e|k
    ·subst e
     have a:q ^^^ 1=v:=a
     have e3:nm (v ^^^ 1)=nm q:=by rw[←a,xor_one_one]
     cases hRe:R with
     | nil=>
      rw[hRe] at hcR
      have ec:c=v:=by simpa using hcR
      obtain⟨f0,hf0,ha0⟩:∃ f0,(f0∈P∨f0=p)∧Adjs c (A ++ [c]) c f0:=by
       rw[hL]
       cases P with
       | nil=>exact⟨p,.inr rfl,.inl ⟨rfl,rfl⟩⟩
       | cons x t=>exact⟨x,.inl (by simp),.inl ⟨rfl,rfl⟩⟩
      have:=next ha0
      rw[ec,e3] at this
      rcases hf0 with hf0|rfl
      ·exact absurd this.symm (sepP _ hf0 q (.inr (.inl rfl)))
      ·exact absurd this.symm (sepp q (.inl rfl))
     | cons r t=>
      have:=next ((chain v r).2 (.inr (.inr (.inr (.inr (by rw[hRe];exact .inl ⟨rfl,rfl⟩))))))
      rw[e3] at this
      exact absurd this (sepq r (.inr (by rw[hRe];simp)))
    ·exact k
   have e1:z (J-1) ^^^ 1=at' s (q ^^^ 1):=by
    have:=z2 (J-1)
    rw[show J-1+1=J by omega,XJ] at this
    exact this.symm
   have e2:∀ l,itf (at' s) l (z (J-1) ^^^ 1)=itf (at' s) (l+1) (q ^^^ 1):=fun l=>by rw[e1];rfl
   refine⟨j-1,by rw[e2,show j-1+1=j by omega,a],fun l l1 e=>b (l+1) (by omega) (by rw[←e2,e]),fun l l1 l2 k=>?_⟩
   rw[e2] at k
   rcases k with k|⟨k1,k2⟩
   ·exact d (l+1) (by omega) (by omega) k
   ·rw[hnm',hnm'] at k2
    obtain⟨y1,y2⟩:=itN (l+1) hqm
    have e:=dbl y2 hqm y1 (by rw[k2,xor_one_one])
    refine b (j-(l+1)) (by omega) ?_
    rw[←a]
    have e4:itf (at' s) j (q ^^^ 1)=itf (at' s) (j-(l+1)) (itf (at' s) (l+1) (q ^^^ 1)):=by rw[←itf_add,show j-(l+1)+(l+1)=j by omega]
    rw[e4,e]
  ·exact keepI ((chain u v).2 (.inr (.inr (.inr (.inr k))))) (fun e=>sepp v (.inr (.inr (inR k))) e.symm) (fun e=>sepR v (inR k) e.symm)
 ·intro d hd hG hG'
  have hdq:nm d≠nm q:=fun e=>hG (Gq hd e)
  have hdG:¬ G d:=fun k=>hG (.inl k)
  have out:∀ x,x∈A ++ [c]→nm d=nm x→∃ y,y∈(P ++ (List.range J).map z ++ Q) ++ [c]∧nth (namesL s) d=nth (namesL s) y:=fun x hx e=>by
   rcases (mem x).1 hx with k|k|k|k|k
   ·exact⟨x,(mem' x).2 (.inl k),by rw[hnm',hnm',e]⟩
   ·exact⟨z 0,(mem' _).2 (.inr (.inl ⟨0,hJ,rfl⟩)),by rw[hnm',hnm',zn0,e,k]⟩
   ·exact absurd (by rw[e,k]) hdq
   ·exact⟨x,(mem' x).2 (.inr (.inr (.inl k))),by rw[hnm',hnm',e]⟩
   ·exact⟨x,(mem' x).2 (.inr (.inr (.inr k))),by rw[hnm',hnm',e]⟩
  rcases hG' with k|⟨k1,k2⟩
  ·obtain⟨x,hx,e⟩:=hS.edge d hd hdG k
   exact out x hx (by rw[←hnm',←hnm'];exact e)
  ·obtain⟨_,_,t0,ht0⟩:=(cyc_at h.perm).2 ⟨hq,k1,k2.symm⟩
   obtain⟨t,_,t2,t3⟩:=least_nat (p:=fun j=>itf (at' s) j q=d ^^^ 1) t0 ht0
   obtain⟨j0,a,b,o⟩:=hS.outer _ _ apq
   rcases Nat.eq_zero_or_pos t with e|tp
   ·subst e
    have t2:q=d ^^^ 1:=t2
    have e2:d=q ^^^ 1:=by rw[t2,xor_one_one]
    exact out q' ((mem q').2 (.inr (.inr (.inr (.inl rfl))))) (by rw[e2,nqm])
   ·rcases Nat.lt_or_ge t j0 with k|k
    ·have:=o t tp k
     rw[t2,xor_one_one] at this
     exact absurd this hdG
    ·have e3:X (t-j0)=d ^^^ 1:=by
      rw[hX]
      show itf (at' s) (t-j0) (p ^^^ 1)=_
      rw[←b,←itf_add,show t-j0+j0=t by omega,t2]
     rcases Nat.lt_or_ge (t-j0) J with k'|k'
     ·exact⟨z (t-j0),(mem' _).2 (.inr (.inl ⟨_,k',rfl⟩)),by rw[hnm',hnm',zn,e3,xor_one_one]⟩
     ·refine absurd ?_ (t3 (t-j0-J) (by omega))
      rw[←XJ,hX]
      show itf (at' s) (t-j0-J) (itf (at' s) J (p ^^^ 1))=_
      rw[←itf_add,show t-j0-J+J=t-j0 by omega]
      rw[hX] at e3
      exact e3
end
end
section
set_option linter.unusedVariables false
set_option linter.unusedSectionVars false
theorem con_one {s:List Nat} (hs:IsPerm s) (he:s.length % 2=0) (h1:partsN s≤1) {x y:Nat} (hx:x<s.length) (hy:y<s.length):Con s x y:=by
 have ho:=partsL_ord hs he
 have hz:∀ x,x<s.length→nth (partsL s) x=0:=fun x hx=>by
  have hb:=ho.bound hx
  have hm:=ho.mono (k:=x+1) (l:=s.length) (by omega) (Nat.le_refl _)
  have hc:(partsGo s s.length).2=partsN s:=rfl
  simp only[hc] at hm
  omega
 exact (ho.rel _ _ hx hy).1 (by rw[hz x hx,hz y hy])
section
variable {s : List Nat} (h : TriS s)
include h
theorem TriS.turn_mate {x:Nat} (hx:x<s.length):at' s (x ^^^ 1)=at' (phiL s) x:=(phiL_at hx).symm
theorem TriS.inn {p q:Nat} (hp:p<s.length) (hq:q<s.length) (e:nth (namesL s) (p ^^^ 1)=nth (namesL s) q):InnJ s (fun _=>False) p q:=by
 obtain⟨_,_,j,hj⟩:=(cyc_at h.perm).2 ⟨xor_one_lt h.even hp,hq,e⟩
 obtain⟨m,_,m2,m3⟩:=least_nat (p:=fun j=>itf (at' s) j (p ^^^ 1)=q) j hj
 exact⟨m,m2,m3,fun _ _ _ k=>k⟩
def begA (s:List Nat) (r:Nat):List Nat:=[at' (phiL s) (at' (phiL s) r) ^^^ 1,at' (phiL s) r ^^^ 1]
theorem begA_names {r:Nat} (hr:r<s.length):(begA s r ++ [r ^^^ 1]).map (fun x=>nth (namesL s) x)=[nth (namesL s) r,nth (namesL s) (at' (phiL s) (at' (phiL s) r)),nth (namesL s) (at' (phiL s) r)]:=by
 have h1:=h.phl hr
 have h2:=h.phl h1
 have e1:=names_phi h.perm h.even hr
 have e2:=names_phi h.perm h.even h1
 have e3:=names_phi h.perm h.even h2
 rw[(h.three r hr).1] at e3
 simp only[begA,List.cons_append,List.nil_append,List.map_cons,List.map_nil]
 rw[←e1,←e2,←e3]
theorem Shl.start {r:Nat} (hr:r<s.length):Shl s (fun _=>False) (r ^^^ 1) (begA s r):=by
 have h1:=h.phl hr
 have h2:=h.phl h1
 have h3:=(h.three r hr).1
 have e1:=names_phi h.perm h.even hr
 have e2:=names_phi h.perm h.even h1
 have e3:=names_phi h.perm h.even h2
 rw[h3] at e3
 have m0:=xor_one_lt h.even hr
 have m1:=xor_one_lt h.even h1
 have m2:=xor_one_lt h.even h2
 have t0:=h.turn_mate hr
 have t1:=h.turn_mate h1
 have t2:=h.turn_mate h2
 rw[h3] at t2
 have adj:∀ p q,Adjs (r ^^^ 1) (begA s r ++ [r ^^^ 1]) p q→(p=r ^^^ 1∧q=at' (phiL s) (at' (phiL s) r) ^^^ 1)∨(p=at' (phiL s) (at' (phiL s) r) ^^^ 1∧q=at' (phiL s) r ^^^ 1)∨(p=at' (phiL s) r ^^^ 1∧q=r ^^^ 1):=fun p q k=>by
  simpa [Adjs,begA] using k
 have l0:=h.loop _ hr
 have l1:=h.loop _ h1
 have l2:=h.loop _ h2
 constructor
 ·intro x hx
  have:x=at' (phiL s) (at' (phiL s) r) ^^^ 1∨x=at' (phiL s) r ^^^ 1∨x=r ^^^ 1:=by simpa [begA] using hx
  rcases this with rfl|rfl|rfl
  ·exact m2
  ·exact m1
  ·exact m0
 ·simp[begA]
 ·rw[begA_names h hr]
  rw[←e1] at l0
  rw[←e2] at l1
  rw[←e3] at l2
  simp only[List.nodup_cons,List.mem_cons,List.not_mem_nil,or_false,not_or,List.nodup_nil,and_true,not_false_eq_true]
  exact⟨⟨fun e=>l2 e.symm,l0⟩,fun e=>l1 e.symm⟩
 ·exact fun _ _ k=>k
 ·exact fun _ _ _ _ _ k=>k
 ·intro p q k
  rcases adj p q k with ⟨rfl,rfl⟩|⟨rfl,rfl⟩|⟨rfl,rfl⟩
  ·exact⟨1,by omega,by rw[xor_one_one];exact t2,fun l _ _=>by omega⟩
  ·exact⟨1,by omega,by rw[xor_one_one];exact t1,fun l _ _=>by omega⟩
  ·exact⟨1,by omega,by rw[xor_one_one];exact t0,fun l _ _=>by omega⟩
 ·intro p q k
  rcases adj p q k with ⟨rfl,rfl⟩|⟨rfl,rfl⟩|⟨rfl,rfl⟩
  ·exact h.inn m0 m2 (by rw[xor_one_one];exact e3)
  ·exact h.inn m2 m1 (by rw[xor_one_one];exact e2)
  ·exact h.inn m1 m0 (by rw[xor_one_one];exact e1)
 ·exact fun _ _ _ k=>k.elim
theorem Shl.all {G:Nat→Prop} {c a0:Nat} (hS:Shl s G c [a0]) {x:Nat} (hx:x<s.length):G x∨nth (namesL s) x=nth (namesL s) a0∨nth (namesL s) x=nth (namesL s) c:=by
 have ha:a0<s.length:=hS.lt a0 (by simp)
 have hc:c<s.length:=hS.lt c (by simp)
 have n1:=hS.next h (show Adjs c ([a0] ++ [c]) c a0 from .inl ⟨rfl,rfl⟩)
 have n2:=hS.next h (show Adjs c ([a0] ++ [c]) a0 c from .inr (.inl ⟨rfl,rfl⟩))
 have hm:=xor_one_lt h.even hc
 have e:a0=c ^^^ 1:=h.dbl _ _ ha hm n1.symm (by rw[n2,xor_one_one])
 have e':c=a0 ^^^ 1:=by rw[e,xor_one_one]
 have side:∀ {p q:Nat},Adjs c ([a0] ++ [c]) p q→p ^^^ 1=q→∀ y,y<s.length→nth (namesL s) y=nth (namesL s) q→y=q∨G (y ^^^ 1):=fun {p q} hadj epq y hy ey=>by
  obtain⟨j,a,b,o⟩:=hS.outer p q hadj
  have hq:=hS.lt q (adjs_mem hadj).2
  obtain⟨_,_,t0,ht0⟩:=(cyc_at h.perm).2 ⟨hq,hy,ey.symm⟩
  obtain⟨t,_,t2,t3⟩:=least_nat (p:=fun j=>itf (at' s) j q=y) t0 ht0
  rcases Nat.eq_zero_or_pos t with e0|tp
  ·subst e0
   exact .inl (Eq.symm t2)
  ·rcases Nat.lt_or_ge t j with k|k
   ·right;rw[←t2];exact o t tp k
   ·refine absurd ?_ (t3 (t-j) (by omega))
    have e1:itf (at' s) (t-j) (itf (at' s) j q)=y:=by rw[←itf_add,show t-j+j=t by omega];exact t2
    rw[b,epq] at e1
    exact e1
 have s1:=side (show Adjs c ([a0] ++ [c]) c a0 from .inl ⟨rfl,rfl⟩) e.symm
 have s2:=side (show Adjs c ([a0] ++ [c]) a0 c from .inr (.inl ⟨rfl,rfl⟩)) e'.symm
 refine Classical.byContradiction fun k=>?_
 let W:Nat→Prop:=fun d=>¬ G d∧nth (namesL s) d≠nth (namesL s) a0∧nth (namesL s) d≠nth (namesL s) c
 have hW:W x:=⟨fun q=>k (.inl q),fun q=>k (.inr (.inl q)),fun q=>k (.inr (.inr q))⟩
 have one:∀ d,d<s.length→W d→W (d ^^^ 1):=fun d hd hd'=>by
  have hdm:=xor_one_lt h.even hd
  refine⟨fun q=>?_,fun q=>?_,fun q=>?_⟩
  ·obtain⟨y,hy,ey⟩:=hS.edge d hd hd'.1 q
   have:y=a0∨y=c:=by simpa using hy
   rcases this with rfl|rfl
   ·exact hd'.2.1 ey
   ·exact hd'.2.2 ey
  ·rcases s1 _ hdm q with e1|e1
   ·have:d=c:=by rw[e',←e1,xor_one_one]
    exact hd'.2.2 (by rw[this])
   ·rw[xor_one_one] at e1;exact hd'.1 e1
  ·rcases s2 _ hdm q with e1|e1
   ·have:d=a0:=by rw[e,←e1,xor_one_one]
    exact hd'.2.1 (by rw[this])
   ·rw[xor_one_one] at e1;exact hd'.1 e1
 have turn:∀ d,d<s.length→(W (at' s d)↔W d):=fun d hd=>by
  have e1:=names_turn h.perm hd
  have hd2:=h.perm.lt hd
  exact⟨fun q=>⟨fun g=>q.1 (hS.turn _ _ hd hd2 e1.symm g),by rw[←e1];exact q.2.1,by rw[←e1];exact q.2.2⟩,fun q=>⟨fun g=>q.1 (hS.turn _ _ hd2 hd e1 g),by rw[e1];exact q.2.1,by rw[e1];exact q.2.2⟩⟩
 have mate:∀ d,d<s.length→(W (d ^^^ 1)↔W d):=fun d hd=>⟨fun q=>by have:=one _ (xor_one_lt h.even hd) q;rwa [xor_one_one] at this,one d hd⟩
 have hcon:Con s x a0:=con_one h.perm h.even (Nat.le_of_eq h.parts) hx ha
 have hcl:=Con.sub h.perm (r:=fun u v=>u<s.length∧v<s.length∧(W u↔W v)) ⟨fun hx=>⟨hx,hx,Iff.rfl⟩,fun k=>⟨k.2.1,k.1,k.2.2.symm⟩,fun k l=>⟨k.1,l.2.1,k.2.2.trans l.2.2⟩,fun k=>k.1⟩
  (fun z hz=>⟨hz,h.perm.lt hz,(turn z hz).symm⟩) (fun z hz=>⟨hz,xor_one_lt h.even hz,(mate z hz).symm⟩) hcon
 exact (hcl.2.2.1 hW).2.1 rfl
end
end
section
set_option linter.unusedVariables false
set_option linter.unusedSectionVars false
open Classical in
noncomputable def arcN (s:List Nat) (p q:Nat):Nat:=if k:∃ j,itf (at' s) j (p ^^^ 1)=q∧∀ l,l<j→itf (at' s) l (p ^^^ 1)≠q then Classical.choose k else 0
theorem arcN_eq {s:List Nat} {p q j:Nat} (h1:itf (at' s) j (p ^^^ 1)=q) (h2:∀ l,l<j→itf (at' s) l (p ^^^ 1)≠q):arcN s p q=j:=by
 have k:∃ j,itf (at' s) j (p ^^^ 1)=q∧∀ l,l<j→itf (at' s) l (p ^^^ 1)≠q:=⟨j,h1,h2⟩
 have e:arcN s p q=Classical.choose k:=dif_pos k
 obtain⟨k1,k2⟩:=Classical.choose_spec k
 rw[←e] at k1 k2
 rcases Nat.lt_trichotomy (arcN s p q) j with q'|q'|q'
 ·exact absurd k1 (h2 _ q')
 ·exact q'
 ·exact absurd h1 (k2 _ q')
def vtL (s:List Nat) (A:List Nat):List Int:=A.map fun x=>nth (namesL s) x
def goneP (s:List Nat) (out:List Int) (x:Nat):Prop:=x<s.length∧nth (namesL s) x∈out
def FreeI' (s:List Nat) (c:Nat) (A:List Nat) (i:Nat):Prop:=0<i∧i<A.length∧FreeD s A c (A.getD (i-1) 0) (A.getD i 0)
open Classical in
noncomputable def firstI (s:List Nat) (c:Nat) (A:List Nat):Nat:=if k:∃ i,FreeI' s c A i∧∀ l,l<i→¬ FreeI' s c A l then Classical.choose k else 0
theorem firstI_eq {s:List Nat} {c:Nat} {A:List Nat} {i:Nat} (h1:FreeI' s c A i) (h2:∀ l,l<i→¬ FreeI' s c A l):firstI s c A=i:=by
 have k:∃ i,FreeI' s c A i∧∀ l,l<i→¬ FreeI' s c A l:=⟨i,h1,h2⟩
 have e:firstI s c A=Classical.choose k:=dif_pos k
 obtain⟨k1,k2⟩:=Classical.choose_spec k
 rw[←e] at k1 k2
 rcases Nat.lt_trichotomy (firstI s c A) i with q'|q'|q'
 ·exact absurd k1 (h2 _ q')
 ·exact q'
 ·exact absurd h1 (k2 _ q')
noncomputable def cutA (s:List Nat) (A:List Nat) (i:Nat):List Nat:=
 A.take (i-1) ++ (List.range (arcN s (A.getD (i-1) 0) (A.getD i 0))).map (midZ s (A.getD (i-1) 0)) ++ A.drop (i+1)
noncomputable def ordGo (s:List Nat) (c:Nat):Nat→List Nat→List Int→List Int
 | 0,_,out=>out
 | f+1,A,out=>if A.length<2 then out else ordGo s c f (cutA s A (firstI s c A)) (out ++ [nth (namesL s) (A.getD (firstI s c A) 0)])
noncomputable def orderL (s:List Nat) (r:Nat):List Int:=nth (namesL s) r :: nth (namesL s) (at' (phiL s) r) :: (ordGo s (r ^^^ 1) s.length (begA s r) []).reverse
theorem split_at2 {A:List Nat} {i:Nat} (h0:0<i) (hi:i<A.length):A=A.take (i-1) ++ A.getD (i-1) 0 :: A.getD i 0 :: A.drop (i+1):=by
 have e1:A.drop (i-1)=A.getD (i-1) 0 :: A.drop i:=by
  rw[getD_at (by omega),show A.drop i=A.drop (i-1+1) by rw[show i-1+1=i by omega]]
  exact List.drop_eq_getElem_cons (by omega)
 have e2:A.drop i=A.getD i 0 :: A.drop (i+1):=by
  rw[getD_at hi]
  exact List.drop_eq_getElem_cons hi
 rw[←e2,←e1,List.take_append_drop]
def HistAt (s:List Nat) (out:List Int) (t:Nat):Prop:=∃ p q,p<s.length∧q<s.length∧nth out t=nth (namesL s) q∧nth (namesL s) (p ^^^ 1)=nth (namesL s) q∧q≠p ^^^ 1 ∧
 OutJ s (goneP s (out.take t)) p q∧InnJ s (goneP s (out.take t)) p q∧¬ goneP s (out.take t) p∧¬ goneP s (out.take t) (q ^^^ 1)∧(0<t→∃ x,x<s.length∧nth (namesL s) x=nth (namesL s) q∧goneP s (out.take t) (x ^^^ 1))
theorem adjs_two {c d:Nat} {P Q:List Nat} {p q:Nat}:Adjs c ((P ++ p :: q :: Q) ++ [d]) p q∧∃ q',q'∈Q ++ [d]∧Adjs c ((P ++ p :: q :: Q) ++ [d]) q q':=by
 have e:(P ++ p :: q :: Q) ++ [d]=P ++ (p :: q :: (Q ++ [d])):=by simp
 rw[e]
 refine⟨adjs_app.2 (.inr (by simp[Adjs])),?_⟩
 cases Q with
 | nil=>exact⟨d,by simp,adjs_app.2 (.inr (by simp[Adjs]))⟩
 | cons x t=>exact⟨x,by simp,adjs_app.2 (.inr (by simp[Adjs]))⟩
structure ShRun (s:List Nat) (r:Nat) (A:List Nat) (out:List Int):Prop where
 shl:Shl s (goneP s out) (r ^^^ 1) A
 one:out.Nodup
 are:∀ v,v∈out→∃ d,d<s.length∧nth (namesL s) d=v
 rim:out≠[]→∀ i,0<i→i<A.length→∃ x,x<s.length∧nth (namesL s) x=nth (namesL s) (A.getD i 0)∧goneP s out (x ^^^ 1)
 hist:∀ t,t<out.length→HistAt s out t
 beg:out=[]→A.length=2
 head:∃ a t,A=a :: t∧nth (namesL s) a=nth (namesL s) r
 last:nth (namesL s) (r ^^^ 1)=nth (namesL s) (at' (phiL s) r)
section
variable {s : List Nat} (h : TriS s) {r : Nat} (hr : r < s.length)
include h hr
theorem ShRun.start:ShRun s r (begA s r) []:=by
 have e:goneP s []=fun _=>False:=funext fun x=>propext ⟨fun k=>by simp[goneP] at k,fun k=>k.elim⟩
 have hn:=begA_names h hr
 simp only[begA,List.cons_append,List.nil_append,List.map_cons,List.map_nil,List.cons.injEq,and_true] at hn
 refine⟨by rw[e];exact Shl.start h hr,List.nodup_nil,fun v hv=>by simp at hv,fun k=>absurd rfl k,fun t ht=>absurd ht (Nat.not_lt_zero _),fun _=>rfl,⟨_,_,rfl,hn.1⟩,hn.2.2⟩
variable {A : List Nat} {out : List Int} (hR : ShRun s r A out)
include hR
theorem ShRun.first (h2:2≤A.length):FreeI' s (r ^^^ 1) A (firstI s (r ^^^ 1) A)∧∀ l,l<firstI s (r ^^^ 1) A→¬ FreeI' s (r ^^^ 1) A l:=by
 obtain⟨i,i1,i2,i3⟩:=hR.shl.some_free h h2
 obtain⟨m,_,m2,m3⟩:=least_nat (p:=fun i=>FreeI' s (r ^^^ 1) A i) i ⟨i1,i2,i3⟩
 rw[firstI_eq m2 m3]
 exact⟨m2,m3⟩
theorem ShRun.mem {x:Nat} (hx:x∈A ++ [r ^^^ 1]):x<s.length∧nth (namesL s) x∉out:=⟨hR.shl.lt x hx,fun k=>hR.shl.live x hx ⟨hR.shl.lt x hx,k⟩⟩
theorem ShRun.step {i:Nat} (hi:FreeI' s (r ^^^ 1) A i):ShRun s r (cutA s A i) (out ++ [nth (namesL s) (A.getD i 0)])∧0<arcN s (A.getD (i-1) 0) (A.getD i 0) ∧
  itf (at' s) (arcN s (A.getD (i-1) 0) (A.getD i 0)) (A.getD (i-1) 0 ^^^ 1)=A.getD i 0∧∀ l,l<arcN s (A.getD (i-1) 0) (A.getD i 0)→itf (at' s) l (A.getD (i-1) 0 ^^^ 1)≠A.getD i 0:=by
 obtain⟨i1,i2,i3⟩:=hi
 have hA:=split_at2 i1 i2
 obtain⟨p,hp⟩:∃ p,A.getD (i-1) 0=p:=⟨_,rfl⟩
 obtain⟨q,hq⟩:∃ q,A.getD i 0=q:=⟨_,rfl⟩
 rw[hp,hq] at hA i3
 rw[hp,hq]
 obtain⟨J,J0,J1,J2,J3⟩:=hR.shl.step h hA i3
 have eJ:=arcN_eq J1 J2
 have hqm:q∈A:=by rw[hA];simp
 obtain⟨qlt,qout⟩:=hR.mem h hr (List.mem_append_left _ hqm)
 have eG:goneL s (goneP s out) q=goneP s (out ++ [nth (namesL s) q]):=funext fun x=>propext ⟨fun k=>by
  rcases k with k|k
  ·exact⟨k.1,List.mem_append_left _ k.2⟩
  ·exact⟨k.1,by rw[k.2];simp⟩,fun k=>by
  rcases List.mem_append.1 k.2 with k'|k'
  ·exact .inl ⟨k.1,k'⟩
  ·exact .inr ⟨k.1,by simpa using k'⟩⟩
 rw[eG] at J3
 have eC:cutA s A i=A.take (i-1) ++ (List.range J).map (midZ s p) ++ A.drop (i+1):=by unfold cutA;rw[hp,hq,eJ]
 refine⟨⟨by rw[eC];exact J3,?_,?_,?_,?_,fun k=>by simp at k,?_,hR.last⟩,by rw[eJ];exact J0,by rw[eJ];exact J1,by rw[eJ];exact J2⟩
 ·rw[List.nodup_append]
  refine⟨hR.one,by simp,fun a ha b hb e=>?_⟩
  have:b=nth (namesL s) q:=by simpa using hb
  exact qout (by rw[←this,←e];exact ha)
 ·intro v hv
  rcases List.mem_append.1 hv with k|k
  ·exact hR.are v k
  ·have e:v=nth (namesL s) q:=by simpa using k
   exact⟨q,qlt,e.symm⟩
 ·intro _ i' h0 hi'
  have hpA:p∈A:=by rw[hA];simp
  have plt:=(hR.mem h hr (List.mem_append_left _ hpA)).1
  obtain⟨x,hx⟩:∃ x,(cutA s A i).getD i' 0=x:=⟨_,rfl⟩
  rw[hx]
  have hlen:(A.take (i-1)).length=i-1:=by rw[List.length_take];omega
  rw[eC] at hx hi'
  rw[getD_at hi'] at hx
  have hx':(A.take (i-1) ++ (List.range J).map (midZ s p) ++ A.drop (i+1))[i']?=some x:=by rw[List.getElem?_eq_getElem hi',hx]
  have old:∀ j,0<j→j<A.length→j≠i-1→j≠i→A[j]?=some x→∃ y,y<s.length∧nth (namesL s) y=nth (namesL s) x∧goneP s (out ++ [nth (namesL s) q]) (y ^^^ 1):=fun j j0 j1 n1 n2 e=>by
   by_cases ho:out=[]
   ·have:=hR.beg ho
    omega
   ·obtain⟨y,y1,y2,y3⟩:=hR.rim ho j j0 j1
    refine⟨y,y1,?_,y3.1,List.mem_append_left _ y3.2⟩
    rw[y2,List.getD_eq_getElem?_getD,e]
    rfl
  rcases Nat.lt_or_ge i' (i-1) with k|k
  ·rw[List.append_assoc,List.getElem?_append_left (by omega),List.getElem?_take,if_pos k] at hx'
   exact old i' h0 (by omega) (by omega) (by omega) hx'
  ·rcases Nat.lt_or_ge i' (i-1+J) with k'|k'
   ·rw[List.getElem?_append_left (by simp;omega),List.getElem?_append_right (by omega),hlen,List.getElem?_map,List.getElem?_range (by omega)] at hx'
    have ex:midZ s p (i' - (i-1))=x:=by simpa using hx'
    have pm:=xor_one_lt h.even plt
    have it:∀ m,itf (at' s) m (p ^^^ 1)<s.length∧nth (namesL s) (itf (at' s) m (p ^^^ 1))=nth (namesL s) (p ^^^ 1):=fun m=>by
     induction m with
     | zero=>exact⟨pm,rfl⟩
     | succ m ih=>rw[itf_succ];exact⟨h.perm.lt ih.1,by rw[names_turn h.perm ih.1,ih.2]⟩
    have pq:nth (namesL s) (p ^^^ 1)=nth (namesL s) q:=by rw[←(it J).2,J1]
    have hX:=it (i' - (i-1))
    have t1:=(h.tri hX.1).1
    have t3:midZ s p (i' - (i-1))=at' (phiL s) (at' s (itf (at' s) (i' - (i-1)) (p ^^^ 1))) ^^^ 1:=by unfold midZ;rw[itf_succ]
    have t2:=names_turn h.perm (xor_one_lt h.even (h.phl (h.perm.lt hX.1)))
    rw[t1,←t3,ex] at t2
    refine⟨_,xor_one_lt h.even hX.1,t2,by rw[xor_one_one];exact hX.1,?_⟩
    rw[xor_one_one,hX.2,pq]
    simp
   ·rw[List.getElem?_append_right (by simp;omega),List.getElem?_drop] at hx'
    have hb:i+1+(i' - (A.take (i-1) ++ (List.range J).map (midZ s p)).length)<A.length:=by
     rcases Nat.lt_or_ge (i+1+(i' - (A.take (i-1) ++ (List.range J).map (midZ s p)).length)) A.length with w|w
     ·exact w
     ·rw[List.getElem?_eq_none w] at hx'
      simp at hx'
    exact old _ (by omega) hb (by omega) (by omega) hx'
 ·intro t ht
  simp only[List.length_append,List.length_singleton] at ht
  rcases Nat.lt_or_ge t out.length with k|k
  ·obtain⟨p0,q0,k1,k2,k3,k4⟩:=hR.hist t k
   have e1:(out ++ [nth (namesL s) q]).take t=out.take t:=List.take_append_of_le_length (by omega)
   refine⟨p0,q0,k1,k2,?_,?_⟩
   ·rw[←k3];unfold nth;rw[List.getD_eq_getElem?_getD,List.getElem?_append_left k];rfl
   ·rw[e1];exact k4
  ·obtain rfl:t=out.length:=by omega
   have e1:(out ++ [nth (namesL s) q]).take out.length=out:=by simp
   have hL:A ++ [r ^^^ 1]=(A.take (i-1) ++ p :: q :: A.drop (i+1)) ++ [r ^^^ 1]:=by rw[←hA]
   obtain⟨a1,q',a2,a3⟩:=adjs_two (c:=r ^^^ 1) (d:=r ^^^ 1) (P:=A.take (i-1)) (Q:=A.drop (i+1)) (p:=p) (q:=q)
   rw[←hL] at a1 a3
   have hpA:p∈A:=by rw[hA];simp
   obtain⟨plt,pout⟩:=hR.mem h hr (List.mem_append_left _ hpA)
   obtain⟨q'lt,q'out⟩:=hR.mem h hr ((adjs_mem a3).2)
   have n1:=hR.shl.next h a1
   have n2:=hR.shl.next h a3
   refine⟨p,q,plt,qlt,?_,n1,fun e=>J2 0 J0 e.symm,?_⟩
   ·unfold nth;rw[List.getD_eq_getElem?_getD,List.getElem?_append_right (Nat.le_refl _)];simp
   ·rw[e1]
    refine⟨hR.shl.outer _ _ a1,hR.shl.inner _ _ a1,fun k=>pout k.2,fun k=>q'out (by rw[←n2];exact k.2),fun h0=>?_⟩
    obtain⟨x,x1,x2,x3⟩:=hR.rim (fun e=>by rw[e] at h0;simp at h0) i i1 i2
    exact⟨x,x1,by rw[x2,hq],x3⟩
 ·obtain⟨a,t,e1,e2⟩:=hR.head
  rw[eC]
  rcases Nat.lt_or_ge 1 i with k|k
  ·refine⟨a,t.take (i-2) ++ (List.range J).map (midZ s p) ++ A.drop (i+1),?_,e2⟩
   rw[e1]
   obtain⟨m,rfl⟩:∃ m,i=m+2:=⟨i-2,by omega⟩
   simp
  ·obtain rfl:i=1:=by omega
   obtain⟨j,rfl⟩:∃ j,J=j+1:=⟨J-1,by omega⟩
   refine⟨midZ s p 0,(List.range j).map (fun k=>midZ s p (k+1)) ++ A.drop 2,?_,?_⟩
   ·rw[List.range_succ_eq_map]
    simp[List.map_map,Function.comp_def]
   ·have hpa:p=a:=by rw[←hp,e1];rfl
    have plt:p<s.length:=(hR.mem h hr (List.mem_append_left _ (by rw[hA];simp))).1
    have t1:=(h.tri (xor_one_lt h.even plt)).1
    have t2:=names_turn h.perm (xor_one_lt h.even (h.phl (h.perm.lt (xor_one_lt h.even plt))))
    rw[t1,xor_one_one] at t2
    show nth (namesL s) (at' (phiL s) (at' s (p ^^^ 1)) ^^^ 1)=_
    rw[←t2,hpa,e2]
end
end
section
set_option linter.unusedVariables false
set_option linter.unusedSectionVars false
theorem nodup_le {V:Nat} {l:List Int} (hn:l.Nodup) (hb:∀ x,x∈l→0≤x∧x<V):l.length≤V:=by
 rcases Nat.lt_or_ge V l.length with k|k
 ·obtain⟨a,b,hab,hbV,e⟩:=pigeon V (fun i=>(nth l i).toNat) (fun i hi=>by
   have hi':i<l.length:=by omega
   have:nth l i∈l:=by unfold nth;rw[List.getD_eq_getElem?_getD,List.getElem?_eq_getElem hi'];exact List.getElem_mem hi'
   have:=hb _ this
   omega)
  have ha':a<l.length:=by omega
  have hb':b<l.length:=by omega
  have na:nth l a=l[a]:=by unfold nth;rw[List.getD_eq_getElem?_getD,List.getElem?_eq_getElem ha'];rfl
  have nb:nth l b=l[b]:=by unfold nth;rw[List.getD_eq_getElem?_getD,List.getElem?_eq_getElem hb'];rfl
  have m1:=hb _ (List.getElem_mem ha')
  have m2:=hb _ (List.getElem_mem hb')
  rw[na,nb] at e
  have:=nodup_idx hn ha' hb' (by omega)
  omega
 ·exact k
theorem nodup_ge {V:Nat} {l:List Int} (hb:∀ v:Nat,v<V→(v:Int)∈l):V≤l.length:=by
 have:∀ (V:Nat) (l:List Int),(∀ v:Nat,v<V→(v:Int)∈l)→V≤l.length:=by
  intro V
  induction V with
  | zero=>intro l _;omega
  | succ V ih=>
   intro l hb
   have hm:=hb V (by omega)
   have:=ih (l.erase (V:Int)) (fun v hv=>(List.mem_erase_of_ne (by omega)).2 (hb v (by omega)))
   rw[List.length_erase_of_mem hm] at this
   have:=List.length_pos_of_mem hm
   omega
 exact this V l hb
section
variable {s : List Nat} (h : TriS s) {r : Nat} (hr : r < s.length)
include h
theorem TriS.name {x:Nat} (hx:x<s.length):0≤nth (namesL s) x∧nth (namesL s) x<((sizesL s).length:Int):=by
 have ho:=namesL_ord h.perm
 have k1:=ho.bound hx
 have k2:=ho.mono (k:=x+1) (l:=s.length) (by omega) (Nat.le_refl _)
 have k3:(sizesL s).length=(namesGo s s.length).2:=by rw[←sizesGo_all,sizesGo_length h.perm _ (Nat.le_refl _)]
 omega
theorem TriS.named {v:Nat} (hv:v<(sizesL s).length):∃ x,x<s.length∧nth (namesL s) x=v:=by
 have ho:=namesL_ord h.perm
 have k3:(sizesL s).length=(namesGo s s.length).2:=by rw[←sizesGo_all,sizesGo_length h.perm _ (Nat.le_refl _)]
 obtain⟨j,hj,e,_⟩:=ho.has (Nat.le_refl s.length) v (by rw[k3] at hv;exact hv)
 exact⟨j,hj,e⟩
include hr
variable {A : List Nat} {out : List Int} (hR : ShRun s r A out)
include hR
theorem ShRun.ends:nth (namesL s) r∉out∧nth (namesL s) (at' (phiL s) r)∉out∧nth (namesL s) r≠nth (namesL s) (at' (phiL s) r):=by
 obtain⟨a,t,e1,e2⟩:=hR.head
 refine⟨?_,?_,?_⟩
 ·rw[←e2];exact (hR.mem h hr (by rw[e1];simp)).2
 ·rw[←hR.last];exact (hR.mem h hr (by simp)).2
 ·rw[←hR.last];exact h.loop r hr
theorem ShRun.nodup:(nth (namesL s) r :: nth (namesL s) (at' (phiL s) r) :: out.reverse).Nodup:=by
 obtain⟨h1,h2,h3⟩:=hR.ends h hr
 refine List.nodup_cons.2 ⟨?_,List.nodup_cons.2 ⟨by simpa using h2,?_⟩⟩
 ·simp only[List.mem_cons,List.mem_reverse,not_or]
  exact⟨h3,h1⟩
 ·exact List.pairwise_reverse.2 (List.Pairwise.imp (fun k=>Ne.symm k) hR.one)
theorem ShRun.names:∀ x,x∈nth (namesL s) r :: nth (namesL s) (at' (phiL s) r) :: out.reverse→0≤x∧x<((sizesL s).length:Int):=fun x hx=>by
 simp only[List.mem_cons,List.mem_reverse] at hx
 rcases hx with rfl|rfl|hx
 ·exact h.name hr
 ·exact h.name (h.phl hr)
 ·obtain⟨d,hd,rfl⟩:=hR.are x hx
  exact h.name hd
theorem ShRun.len:out.length+2≤(sizesL s).length:=by
 have:=nodup_le (hR.nodup h hr) (hR.names h hr)
 simpa using this
theorem ShRun.all (h1:A.length<2):out.length+2=(sizesL s).length∧∀ v:Nat,v<(sizesL s).length→(v:Int)∈nth (namesL s) r :: nth (namesL s) (at' (phiL s) r) :: out.reverse:=by
 have hall:∀ v:Nat,v<(sizesL s).length→(v:Int)∈nth (namesL s) r :: nth (namesL s) (at' (phiL s) r) :: out.reverse:=fun v hv=>by
  obtain⟨x,hx,e⟩:=h.named hv
  obtain⟨a,t,e1,e2⟩:=hR.head
  have:t=[]:=by
   rw[e1,List.length_cons] at h1
   exact List.eq_nil_of_length_eq_zero (by omega)
  subst this
  subst e1
  simp only[List.mem_cons,List.mem_reverse]
  rcases hR.shl.all h hx with k|k|k
  ·exact .inr (.inr (by rw[←e];exact k.2))
  ·exact .inl (by rw[←e,k,e2])
  ·exact .inr (.inl (by rw[←e,k,hR.last]))
 refine⟨?_,hall⟩
 have k1:=nodup_ge hall
 have k2:=hR.len h hr
 simp at k1
 omega
theorem ShRun.go:∀ f,(sizesL s).length≤out.length+f+2→∃ A' out',ShRun s r A' out'∧A'.length<2∧ordGo s (r ^^^ 1) f A out=out':=by
 intro f
 induction f generalizing A out with
 | zero=>
  intro hf
  rcases Nat.lt_or_ge A.length 2 with k|k
  ·exact⟨A,out,hR,k,rfl⟩
  ·have:=(hR.step h hr (hR.first h hr k).1).1.len h hr
   simp at this
   omega
 | succ f ih=>
  intro hf
  unfold ordGo
  rcases Nat.lt_or_ge A.length 2 with k|k
  ·rw[if_pos k]
   exact⟨A,out,hR,k,rfl⟩
  ·rw[if_neg (by omega)]
   exact ih (hR.step h hr (hR.first h hr k).1).1 (by simp;omega)
end
section
variable {s : List Nat} (h : TriS s) {r : Nat} (hr : r < s.length)
include h hr
theorem order_run:∃ A out,ShRun s r A out∧A.length<2∧orderL s r=nth (namesL s) r :: nth (namesL s) (at' (phiL s) r) :: out.reverse:=by
 have hle:(sizesL s).length≤s.length:=by
  rw[←sizesGo_all,sizesGo_length h.perm _ (Nat.le_refl _)]
  exact namesGo_count s _
 obtain⟨A,out,h1,h2,h3⟩:=(ShRun.start h hr).go h hr s.length (by omega)
 exact⟨A,out,h1,h2,by unfold orderL;rw[h3]⟩
theorem order_len:(orderL s r).length=(sizesL s).length:=by
 obtain⟨A,out,h1,h2,h3⟩:=order_run h hr
 rw[h3]
 have:=(h1.all h hr h2).1
 simp
 omega
theorem order_nodup:(orderL s r).Nodup:=by
 obtain⟨A,out,h1,h2,h3⟩:=order_run h hr
 rw[h3];exact h1.nodup h hr
theorem order_mem (v:Int):v∈orderL s r↔0≤v∧v<((sizesL s).length:Int):=by
 obtain⟨A,out,h1,h2,h3⟩:=order_run h hr
 rw[h3]
 refine⟨h1.names h hr v,fun ⟨k1,k2⟩=>?_⟩
 have:=(h1.all h hr h2).2 v.toNat (by omega)
 rwa [show ((v.toNat:Nat):Int)=v by omega] at this
def OrdTo (s:List Nat) (r:Nat) (A:List Nat) (out:List Int):Prop:=∃ f,(sizesL s).length≤out.length+f+2∧ordGo s (r ^^^ 1) f A out=ordGo s (r ^^^ 1) s.length (begA s r) []
theorem OrdTo.start:OrdTo s r (begA s r) []:=⟨s.length,by
 have hle:(sizesL s).length≤s.length:=by
  rw[←sizesGo_all,sizesGo_length h.perm _ (Nat.le_refl _)]
  exact namesGo_count s _
 omega,rfl⟩
theorem OrdTo.step {A:List Nat} {out:List Int} (ho:OrdTo s r A out) (hR:ShRun s r A out) (h2:2≤A.length) {i:Nat} (h1:FreeI' s (r ^^^ 1) A i) (h3:∀ l,l<i→¬ FreeI' s (r ^^^ 1) A l):OrdTo s r (cutA s A i) (out ++ [nth (namesL s) (A.getD i 0)]):=by
 obtain⟨f,k1,k2⟩:=ho
 have k3:=(hR.step h hr h1).1.len h hr
 simp only[List.length_append,List.length_singleton] at k3
 obtain⟨g,rfl⟩:∃ g,f=g+1:=⟨f-1,by omega⟩
 refine⟨g,by simp;omega,?_⟩
 rw[←k2]
 conv=>rhs;unfold ordGo
 rw[if_neg (by omega),firstI_eq h1 h3]
theorem OrdTo.done {A:List Nat} {out:List Int} (ho:OrdTo s r A out) (h2:A.length<2):orderL s r=nth (namesL s) r :: nth (namesL s) (at' (phiL s) r) :: out.reverse:=by
 obtain⟨f,_,k2⟩:=ho
 unfold orderL
 rw[←k2]
 cases f with
 | zero=>rfl
 | succ f=>unfold ordGo;rw[if_pos h2]
end
end
end Go.Proofs.YtgphnkkdmlohlaaGreatDoor
