/- A flip keeps the genus and the parts, vertices and faces. -/
import Derived.Test.YtklkgicjfnbndaaGreatZScriptDoes46
import Derived.Test.YtklkgicjfnbndaaGreatZScriptDoes37
import Derived.StillTailTactics
namespace Go.Proofs.YtklkgicjfnbndaaGreat
section
set_option linter.unusedVariables false
structure FlipD (s:List Nat) (d m pd pa pm pb:Nat):Prop where
 dl:d<s.length
 ml:m<s.length
 pdl:pd<s.length
 pal:pa<s.length
 pml:pm<s.length
 pbl:pb<s.length
 dm:d ^^^ 1=m
 md:m ^^^ 1=d
 fd:at' (phiL s) d=pd
 fpd:at' (phiL s) pd=pa
 fpa:at' (phiL s) pa=d
 fm:at' (phiL s) m=pm
 fpm:at' (phiL s) pm=pb
 fpb:at' (phiL s) pb=m
 nd:[d,pd,pa,m,pm,pb].Nodup
 od:orbitL (phiL s) d=[d,pd,pa]
 om:orbitL (phiL s) m=[m,pm,pb]
 sd:at' s d≠d
 sm:at' s m≠m
theorem three_orbit {p:List Nat} (hp:IsPerm p) {x:Nat} (hx:x<p.length) (h:(orbitL p x).length=3):orbitL p x=[x,at' p x,at' p (at' p x)]∧at' p (at' p (at' p x))=x:=by
 obtain⟨c,hc,hcl,ho⟩:=orbitL_map hp hx
 have hc3:c=3:=by rw[ho] at h;simpa using h
 have e1:it p 0 x=x:=rfl
 have e2:it p 1 x=at' p x:=rfl
 have e3:it p 2 x=at' p (at' p x):=rfl
 have e4:it p 3 x=at' p (at' p (at' p x)):=rfl
 rw[hc3] at ho hcl
 refine⟨?_,by rw[←e4];exact hcl⟩
 rw[ho]
 simp[List.range_succ,e1,e2,e3]
theorem flipD_of {s:List Nat} (hs:IsPerm s) (hes:s.length % 2=0) {d:Nat} (hd:d<s.length) (k1:(orbitL (phiL s) d).length=3) (k2:(orbitL (phiL s) (d ^^^ 1)).length=3)
  (k3:nth (namesL (phiL s)) d≠nth (namesL (phiL s)) (d ^^^ 1)) (h1:at' s d≠d) (h2:at' s (d ^^^ 1)≠d ^^^ 1):∃ m pd pa pm pb,FlipD s d m pd pa pm pb:=by
 have hml:=xor_one_lt hes hd
 obtain⟨m,hm⟩:∃ m,d ^^^ 1=m:=⟨_,rfl⟩
 have hmm:m ^^^ 1=d:=by rw[←hm,xor_one_one]
 rw[hm] at k2 k3 h2 hml
 have hp:=phiL_perm hs hes
 have hl:=phiL_length s
 obtain⟨o1,c1⟩:=three_orbit hp (by rw[hl];exact hd) k1
 obtain⟨o2,c2⟩:=three_orbit hp (by rw[hl];exact hml) k2
 have n1:=orbitL_nodup hp (i:=d) (by rw[hl];exact hd)
 have n2:=orbitL_nodup hp (i:=m) (by rw[hl];exact hml)
 have lt:∀ x,x<s.length→at' (phiL s) x<s.length:=fun x hx=>by rw[←hl];exact hp.lt (by rw[hl];exact hx)
 have dis:∀ x,x∈orbitL (phiL s) d→x∈orbitL (phiL s) m→False:=fun x hx hy=>by
  have a1:=((names_orbit hp (k:=d) (by rw[hl];exact hd)).1 hx).2
  have a2:=((names_orbit hp (k:=m) (by rw[hl];exact hml)).1 hy).2
  exact k3 (a1.symm.trans a2)
 refine⟨m,_,_,_,_,hd,hml,lt _ hd,lt _ (lt _ hd),lt _ hml,lt _ (lt _ hml),hm,hmm,rfl,rfl,c1,rfl,rfl,c2,?_,o1,o2,h1,h2⟩
 rw[o1] at n1 dis
 rw[o2] at n2 dis
 have:[d,at' (phiL s) d,at' (phiL s) (at' (phiL s) d),m,at' (phiL s) m,at' (phiL s) (at' (phiL s) m)]=[d,at' (phiL s) d,at' (phiL s) (at' (phiL s) d)] ++ [m,at' (phiL s) m,at' (phiL s) (at' (phiL s) m)]:=rfl
 rw[this,List.nodup_append]
 exact⟨n1,n2,fun a ha b hb e=>dis a ha (e ▸ hb)⟩
theorem FlipD.ne {s:List Nat} {d m pd pa pm pb:Nat} (h:FlipD s d m pd pa pm pb):d≠pd∧d≠pa∧d≠m∧d≠pm∧d≠pb∧pd≠pa∧pd≠m∧pd≠pm∧pd≠pb∧pa≠m∧pa≠pm∧pa≠pb∧m≠pm∧m≠pb∧pm≠pb:=by
 have:=h.nd
 simp only[List.nodup_cons,List.mem_cons,not_or,List.not_mem_nil,not_false_eq_true,and_true,List.nodup_nil] at this
 obtain⟨⟨a1,a2,a3,a4,a5⟩,⟨b1,b2,b3,b4⟩,⟨c1,c2,c3⟩,⟨d1,d2⟩,e1⟩:=this
 exact⟨a1,a2,a3,a4,a5,b1,b2,b3,b4,c1,c2,c3,d1,d2,e1⟩
theorem FlipD.back {s:List Nat} (hs:IsPerm s) (hes:s.length % 2=0) {x y:Nat} (hx:x<s.length) (e:at' (phiL s) x=y):at' (invL s) y=x ^^^ 1∧at' s (x ^^^ 1)=y:=by
 have hx2:=xor_one_lt hes hx
 rw[phiL_at hx] at e
 exact⟨by rw[←e,invL_at hs hx2],e⟩
section
variable {s : List Nat} (hs : IsPerm s) (hes : s.length % 2 = 0) {d m pd pa pm pb : Nat} (h : FlipD s d m pd pa pm pb)
include hs hes h
theorem FlipD.rows:RowsOf (outL (aftF (pm ^^^ 1) m) (outL (aftF (pd ^^^ 1) d) (outL (witF m) (outL (witF d) (listsL s s.length))))) (flipL s d):=by
 obtain⟨n1,n2,n3,n4,n5,n6,n7,n8,n9,n10,n11,n12,n13,n14,n15⟩:=FlipD.ne h
 have x1:∀ {a b},a≠b→a ^^^ 1≠b ^^^ 1:=fun {a b} hab e=>hab (by rw[←xor_one_one a,e,xor_one_one])
 have sdm:at' s d=pm:=by rw[←h.fm,phiL_at h.ml,h.md]
 have smd:at' s m=pd:=by rw[←h.fd,phiL_at h.dl,h.dm]
 refine flip_rows hs h.dm h.dl h.ml ?_ ?_ (xor_one_lt hes h.pdl) (xor_one_lt hes h.pml) h.sd h.sm (by rw[sdm];exact fun e=>n13 e.symm) (by rw[smd];exact fun e=>n1 e.symm) ?_ ?_ ?_ ?_
 ·rw[h.fd,h.fpd];exact (FlipD.back hs hes h.pdl h.fpd).1
 ·rw[h.fm,h.fpm];exact (FlipD.back hs hes h.pml h.fpm).1
 ·have:=x1 n7;rwa [h.md] at this
 ·have:=x1 (Ne.symm n1);rwa [h.dm] at this
 ·have:=x1 (Ne.symm n13);rwa [h.md] at this
 ·have:=x1 (Ne.symm n4);rwa [h.dm] at this
theorem FlipD.at_ {y:Nat} (hy:y<s.length):at' (flipL s d) y=if y=pm ^^^ 1 then m else if y=m then pb else if y=pd ^^^ 1 then d else if y=d then pa else if y=pa ^^^ 1 then pm else if y=pb ^^^ 1 then pd else at' s y:=by
 obtain⟨n1,n2,n3,n4,n5,n6,n7,n8,n9,n10,n11,n12,n13,n14,n15⟩:=FlipD.ne h
 have x1:∀ {a b},a≠b→a ^^^ 1≠b ^^^ 1:=fun {a b} hab e=>hab (by rw[←xor_one_one a,e,xor_one_one])
 have hr:=(FlipD.rows hs hes h)
 have hlen:=flipL_length s d
 have sdm:at' s d=pm:=by rw[←h.fm,phiL_at h.ml,h.md]
 have smd:at' s m=pd:=by rw[←h.fd,phiL_at h.dl,h.dm]
 have bpd:=(FlipD.back hs hes h.pdl h.fpd).2
 have bpm:=(FlipD.back hs hes h.pml h.fpm).2
 have bpa:=(FlipD.back hs hes h.pal h.fpa).2
 have bpb:=(FlipD.back hs hes h.pbl h.fpb).2
 have key:at' (flipL s d) y=insF (insF (delF (delF (at' s) d) m) (pd ^^^ 1) d) (pm ^^^ 1) m y:=by
  have e1:pd ^^^ 1≠d:=by have:=x1 n7;rwa [h.md] at this
  have e2:pd ^^^ 1≠m:=by have:=x1 (Ne.symm n1);rwa [h.dm] at this
  have e3:pm ^^^ 1≠d:=by have:=x1 (Ne.symm n13);rwa [h.md] at this
  have e4:pm ^^^ 1≠m:=by have:=x1 (Ne.symm n4);rwa [h.dm] at this
  have r1:=((((lists_rowsF hs).without d).without m).after (t:=pd ^^^ 1) (d:=d) ⟨⟨xor_one_lt hes h.pdl,e1⟩,e2⟩ (fun h=>h.1.2 rfl)).after (t:=pm ^^^ 1) (d:=m) (Or.inl ⟨⟨xor_one_lt hes h.pml,e3⟩,e4⟩) (fun h=>h.elim (fun h=>h.2 rfl) fun e=>n3 e.symm)
  obtain⟨v,hv,hyv⟩:=List.mem_flatten.1 ((hr.mem y).2 (by rw[hlen];exact hy))
  obtain⟨j,hj,rfl⟩:=List.getElem_of_mem hyv
  have c1:=hr.next v hv j hj
  have c2:=r1.next v hv j hj
  rw[at'_eq hj] at c1 c2
  rw[c1,c2]
 rw[key]
 have d1:∀ x,at' s x≠d→at' s x≠m→delF (delF (at' s) d) m x=at' s x:=fun x e1 e2=>by rw[delF_o (by rw[delF_o e1];exact e2),delF_o e1]
 by_cases c1:y=pm ^^^ 1
 ·rw[if_pos c1,c1,insF_t]
 rw[if_neg c1]
 have m1:m≠pm ^^^ 1:=fun e=>n4 (by rw[←h.md,e,xor_one_one])
 by_cases c2:y=m
 ·rw[if_pos c2,c2,insF_d m1,insF_o (x1 (Ne.symm n8)) (fun e=>n13 (by rw[←h.dm,←e,xor_one_one])),d1 _ (by rw[bpm];exact Ne.symm n5) (by rw[bpm];exact Ne.symm n14),bpm]
 rw[if_neg c2,insF_o c1 c2]
 by_cases c3:y=pd ^^^ 1
 ·rw[if_pos c3,c3,insF_t]
 rw[if_neg c3]
 by_cases c4:y=d
 ·rw[if_pos c4,c4,insF_d (fun e=>n7 (by rw[←xor_one_one pd,←e,h.dm])),d1 _ (by rw[bpd];exact Ne.symm n2) (by rw[bpd];exact n10),bpd]
 rw[if_neg c4,insF_o c3 c4]
 by_cases c5:y=pa ^^^ 1
 ·rw[if_pos c5,c5,delF_o (by rw[delF_d bpa,sdm];exact Ne.symm n13),delF_d bpa,sdm]
 rw[if_neg c5]
 have ysd:at' s y≠d:=fun e=>c5 (hs.inj hy (xor_one_lt hes h.pal) (by rw[e,bpa]))
 by_cases c6:y=pb ^^^ 1
 ·rw[if_pos c6,c6,delF_d (by rw[delF_o (by rw[bpb];exact Ne.symm n3),bpb]),delF_o (by rw[smd];exact Ne.symm n1),smd]
 rw[if_neg c6]
 exact d1 y ysd fun e=>c6 (hs.inj hy (xor_one_lt hes h.pbl) (by rw[e,bpb]))
theorem FlipD.phi {y:Nat} (hy:y<s.length):at' (phiL (flipL s d)) y=if y=pm then m else if y=d then pb else if y=pd then d else if y=m then pa else if y=pa then pm else if y=pb then pd else at' (phiL s) y:=by
 have hyx:=xor_one_lt hes hy
 rw[phiL_at (by rw[flipL_length];exact hy),FlipD.at_ hs hes h hyx,phiL_at hy]
 have e:∀ x,y ^^^ 1=x ^^^ 1↔y=x:=fun x=>⟨fun e=>by rw[←xor_one_one y,e,xor_one_one],fun e=>by rw[e]⟩
 have ed:y ^^^ 1=d↔y=m:=by rw[←h.md];exact e m
 have em:y ^^^ 1=m↔y=d:=by rw[←h.dm];exact e d
 simp only[e,ed,em]
theorem FlipD.grown:GrownL s (flipL s d) 0 0:=by
 obtain⟨n1,n2,n3,n4,n5,n6,n7,n8,n9,n10,n11,n12,n13,n14,n15⟩:=FlipD.ne h
 have hr:=FlipD.rows hs hes h
 have ht:=hr.isPerm
 have hl:=flipL_length s d
 have he:(flipL s d).length % 2=0:=by rw[hl];exact hes
 have pt:=Con.per ht
 have ps:=Con.per hs
 have hp:=phiL_perm hs hes
 have hpl:=phiL_length s
 have sdm:at' s d=pm:=by rw[←h.fm,phiL_at h.ml,h.md]
 have smd:at' s m=pd:=by rw[←h.fd,phiL_at h.dl,h.dm]
 have stp:∀ x,x<s.length→Con (flipL s d) x (at' (flipL s d) x):=fun x hx=>Con.step ht (by rw[hl];exact hx)
 have mt:∀ x,x<s.length→Con (flipL s d) x (x ^^^ 1):=fun x hx=>Con.mate ht he (by rw[hl];exact hx)
 have smt:∀ x,x<s.length→Con s x (x ^^^ 1):=fun x hx=>Con.mate hs hes hx
 have sst:∀ x,x<s.length→Con s x (at' s x):=fun x hx=>Con.step hs hx
 refine⟨ht,he,?_,?_,?_,by rw[hl];omega⟩
 ·have fc:∀ x,x<s.length→Con s x (at' (phiL s) x):=fun x hx=>by
   rw[phiL_at hx];exact ps.trans (smt x hx) (sst _ (xor_one_lt hes hx))
  have k1:Con s d pd:=by have:=fc d h.dl;rwa [h.fd] at this
  have k2:Con s pd pa:=by have:=fc pd h.pdl;rwa [h.fpd] at this
  have k3:Con s m pm:=by have:=fc m h.ml;rwa [h.fm] at this
  have k4:Con s pm pb:=by have:=fc pm h.pml;rwa [h.fpm] at this
  have k5:Con s d m:=by have:=smt d h.dl;rwa [h.dm] at this
  refine parts_grow hs hes ht he (by rw[hl];exact Nat.le_refl _) id (fun x _=>rfl) (fun x hx=>by rw[hl] at hx;exact hx) (fun x hx=>?_) (fun x hx=>?_) (fun x hx=>?_) (fun x hx=>?_)
  ·rw[hl] at hx
   show Con s x (at' (flipL s d) x)
   rw[FlipD.at_ hs hes h hx]
   by_cases c1:x=pm ^^^ 1
   ·rw[if_pos c1,c1];exact ps.trans (ps.symm (smt pm h.pml)) (ps.symm k3)
   rw[if_neg c1]
   by_cases c2:x=m
   ·rw[if_pos c2,c2];exact ps.trans k3 k4
   rw[if_neg c2]
   by_cases c3:x=pd ^^^ 1
   ·rw[if_pos c3,c3];exact ps.trans (ps.symm (smt pd h.pdl)) (ps.symm k1)
   rw[if_neg c3]
   by_cases c4:x=d
   ·rw[if_pos c4,c4];exact ps.trans k1 k2
   rw[if_neg c4]
   by_cases c5:x=pa ^^^ 1
   ·rw[if_pos c5,c5];exact ps.trans (ps.symm (smt pa h.pal)) (ps.trans (ps.symm (ps.trans k1 k2)) (ps.trans k5 k3))
   rw[if_neg c5]
   by_cases c6:x=pb ^^^ 1
   ·rw[if_pos c6,c6];exact ps.trans (ps.symm (smt pb h.pbl)) (ps.trans (ps.symm (ps.trans k3 k4)) (ps.trans (ps.symm k5) k1))
   rw[if_neg c6]
   exact sst x hx
  ·rw[hl] at hx
   exact smt x hx
  ·have vm:at' (flipL s d) (pm ^^^ 1)=m:=by rw[FlipD.at_ hs hes h (xor_one_lt hes h.pml),if_pos rfl]
   have vd:at' (flipL s d) (pd ^^^ 1)=d:=by
    rw[FlipD.at_ hs hes h (xor_one_lt hes h.pdl),if_neg (fun e=>n8 (by rw[←xor_one_one pd,e,xor_one_one])),if_neg (fun e=>n1 (by rw[←h.md,←e,xor_one_one])),if_pos rfl]
   have g1:Con (flipL s d) pm m:=by
    have:=stp (pm ^^^ 1) (xor_one_lt hes h.pml)
    rw[vm] at this
    exact pt.trans (mt pm h.pml) this
   have g2:Con (flipL s d) pd d:=by
    have:=stp (pd ^^^ 1) (xor_one_lt hes h.pdl)
    rw[vd] at this
    exact pt.trans (mt pd h.pdl) this
   have g3:Con (flipL s d) d m:=by have:=mt d h.dl;rwa [h.dm] at this
   have go:∀ y,Con (flipL s d) x y→at' (flipL s d) x=y→True:=fun _ _ _=>trivial
   have hxs:=stp x (by omega)
   by_cases c1:x=pm ^^^ 1
   ·rw[c1]
    have e:at' s (pm ^^^ 1)=pb:=(FlipD.back hs hes h.pml h.fpm).2
    rw[e]
    have:=stp m h.ml
    rw[FlipD.at_ hs hes h h.ml,if_neg (fun e=>n4 (by rw[←h.md,e,xor_one_one])),if_pos rfl] at this
    exact pt.trans (pt.symm (mt pm h.pml)) (pt.trans g1 this)
   by_cases c2:x=m
   ·rw[c2,smd];exact pt.trans (pt.symm g3) (pt.symm g2)
   by_cases c3:x=pd ^^^ 1
   ·rw[c3]
    have e:at' s (pd ^^^ 1)=pa:=(FlipD.back hs hes h.pdl h.fpd).2
    rw[e]
    have:=stp d h.dl
    rw[FlipD.at_ hs hes h h.dl,if_neg (fun e=>n13 (by rw[←h.dm,e,xor_one_one])),if_neg n3,if_neg (fun e=>n7 (by rw[←h.dm,e,xor_one_one])),if_pos rfl] at this
    exact pt.trans (pt.symm (mt pd h.pdl)) (pt.trans g2 this)
   by_cases c4:x=d
   ·rw[c4,sdm];exact pt.trans g3 (pt.symm g1)
   rw[FlipD.at_ hs hes h hx,if_neg c1,if_neg c2,if_neg c3,if_neg c4] at hxs
   by_cases c5:x=pa ^^^ 1
   ·have e:at' s x=d:=by rw[c5];exact (FlipD.back hs hes h.pal h.fpa).2
    rw[if_pos c5] at hxs
    rw[e]
    exact pt.trans hxs (pt.trans g1 (pt.symm g3))
   rw[if_neg c5] at hxs
   by_cases c6:x=pb ^^^ 1
   ·have e:at' s x=m:=by rw[c6];exact (FlipD.back hs hes h.pbl h.fpb).2
    rw[if_pos c6] at hxs
    rw[e]
    exact pt.trans hxs (pt.trans g2 g3)
   rwa [if_neg c6] at hxs
  ·rw[hl] at hx
   exact pt.refl (by rw[hl];exact hx)
 ·rw[hr.count ht (fun v hv=>by
   unfold outL at hv
   obtain⟨u3,hu3,rfl⟩:=List.mem_map.1 hv
   refine after_ne (t:=pm ^^^ 1) (d:=m) (xss:=[u3]) (fun w hw=>?_) _ (List.mem_map.2 ⟨u3,List.mem_singleton.2 rfl,rfl⟩)
   rw[List.mem_singleton.1 hw]
   obtain⟨u2,hu2,rfl⟩:=List.mem_map.1 hu3
   refine after_ne (t:=pd ^^^ 1) (d:=d) (xss:=[u2]) (fun w hw=>?_) _ (List.mem_map.2 ⟨u2,List.mem_singleton.2 rfl,rfl⟩)
   rw[List.mem_singleton.1 hw]
   obtain⟨u1,hu1,rfl⟩:=List.mem_map.1 hu2
   obtain⟨u0,hu0,rfl⟩:=List.mem_map.1 hu1
   rw[flat_wit,flat_wit,List.filter_filter]
   have h0:=lists_rowsF hs
   obtain⟨x,hx⟩:=List.exists_mem_of_ne_nil u0 (lists_ne hs u0 hu0)
   obtain⟨y,hy,hyd,hym⟩:∃ y,y∈u0∧y≠d∧y≠m:=by
    by_cases c1:x=d
    ·refine⟨at' s x,h0.f_mem hu0 hx,?_,?_⟩
     ·rw[c1];exact h.sd
     ·rw[c1,sdm];exact Ne.symm n13
    ·by_cases c2:x=m
     ·refine⟨at' s x,h0.f_mem hu0 hx,?_,?_⟩
      ·rw[c2,smd];exact Ne.symm n1
      ·rw[c2];exact h.sm
     ·exact⟨x,hx,c1,c2⟩
   exact List.ne_nil_of_mem (List.mem_filter.2 ⟨hy,by simp[hyd,hym]⟩)),outL_len,outL_len,outL_len,outL_len,lists_count hs]
  simp
 ·-- two faces for two
  have h0:=lists_rowsF hp
  rw[hpl] at h0
  have hro:=lists_rows hp
  rw[hpl] at hro
  have rowOf:∀ x,x<s.length→∃ v,v∈listsL (phiL s) s.length∧∀ y,y<s.length→(y∈v↔y∈orbitL (phiL s) x):=fun x hx=>by
   obtain⟨v,hv,hxv⟩:=List.mem_flatten.1 ((h0.mem x).2 hx)
   refine⟨v,hv,fun y hy=>?_⟩
   have hc:=hro.cyc hp (x:=x) (y:=y) (by rw[hpl];exact hx) (by rw[hpl];exact hy)
   rw[hp.mem_orbit (by rw[hpl];exact hx)]
   constructor
   ·intro k
    obtain⟨_,_,j,e⟩:=hc.2 ⟨v,hv,hxv,k⟩
    exact⟨j,by rw[it_itf];exact e⟩
   ·rintro⟨j,e⟩
    obtain⟨u,hu,h4,h5⟩:=hc.1 ⟨by rw[hpl];exact hx,by rw[hpl];exact hy,j,by rw[←it_itf];exact e⟩
    have:=h0.uni hu hv h4 hxv
    subst this
    exact h5
  obtain⟨v,hv,hvm⟩:=rowOf d h.dl
  obtain⟨u,hu,hum⟩:=rowOf m h.ml
  rw[h.od] at hvm
  rw[h.om] at hum
  have huv:u≠v:=fun e=>by
   have h1:=(hum m h.ml).2 (List.mem_cons_self ..)
   rw[e] at h1
   have:=(hvm m h.ml).1 h1
   simp only[List.mem_cons,List.not_mem_nil,or_false] at this
   omega
  have hpe:=List.perm_cons_erase hv
  have hu2:u∈(listsL (phiL s) s.length).erase v:=(List.mem_erase_of_ne huv).2 hu
  have hpe2:=List.perm_cons_erase hu2
  have r1:=((h0.perm hpe).tail.perm hpe2).tail
  obtain⟨E,hE⟩:∃ E:Nat→Prop,E=fun y=>y<s.length∧y∉[d,pd,pa]∧y∉[m,pm,pb]:=⟨_,rfl⟩
  have r2:=r1.congr (E:=E) (g:=at' (phiL (flipL s d))) (fun y=>by
   rw[hE]
   exact⟨fun k=>⟨k.1.1,fun q=>k.1.2 ((hvm y k.1.1).2 q),fun q=>k.2 ((hum y k.1.1).2 q)⟩,fun k=>⟨⟨k.1,fun q=>k.2.1 ((hvm y k.1).1 q)⟩,fun q=>k.2.2 ((hum y k.1).1 q)⟩⟩) (fun y hy=>by
   have q1:y∉[d,pd,pa]:=fun q=>hy.1.2 ((hvm y hy.1.1).2 q)
   have q2:y∉[m,pm,pb]:=fun q=>hy.2 ((hum y hy.1.1).2 q)
   simp only[List.mem_cons,List.not_mem_nil,or_false,not_or] at q1 q2
   rw[FlipD.phi hs hes h hy.1.1,if_neg q2.2.1,if_neg q1.1,if_neg q1.2.1,if_neg q2.1,if_neg q1.2.2,if_neg q2.2.2])
  have f1:at' (phiL (flipL s d)) d=pb:=by rw[FlipD.phi hs hes h h.dl,if_neg n4,if_pos rfl]
  have f2:at' (phiL (flipL s d)) pb=pd:=by rw[FlipD.phi hs hes h h.pbl,if_neg (Ne.symm n15),if_neg (Ne.symm n5),if_neg (Ne.symm n9),if_neg (Ne.symm n14),if_neg (Ne.symm n12),if_pos rfl]
  have f3:at' (phiL (flipL s d)) pd=d:=by rw[FlipD.phi hs hes h h.pdl,if_neg n8,if_neg (Ne.symm n1),if_pos rfl]
  have f4:at' (phiL (flipL s d)) m=pa:=by rw[FlipD.phi hs hes h h.ml,if_neg n13,if_neg (Ne.symm n3),if_neg (Ne.symm n7),if_pos rfl]
  have f5:at' (phiL (flipL s d)) pa=pm:=by rw[FlipD.phi hs hes h h.pal,if_neg n11,if_neg (Ne.symm n2),if_neg (Ne.symm n6),if_neg n10,if_pos rfl]
  have f6:at' (phiL (flipL s d)) pm=m:=by rw[FlipD.phi hs hes h h.pml,if_pos rfl]
  have r3:=r2.more (v:=[d,pb,pd]) (by simp;omega) (fun x hx k=>by
   rw[hE] at k
   simp only[List.mem_cons,List.not_mem_nil,or_false,not_or] at hx k
   omega) (Cy.ch.2 ⟨f1,f2,f3⟩) (fun _ _=>rfl)
  have r4:=r3.more (v:=[m,pa,pm]) (by simp;omega) (fun x hx k=>by
   rw[hE] at k
   simp only[List.mem_cons,List.not_mem_nil,or_false,not_or] at hx k
   omega) (Cy.ch.2 ⟨f4,f5,f6⟩) (fun _ _=>rfl)
  have r5:RowsOf _ (phiL (flipL s d)):=r4.rows (fun y=>by
   rw[phiL_length,hl,hE]
   simp only[List.mem_cons,List.not_mem_nil,or_false,not_or]
   have:=h.dl;have:=h.ml;have:=h.pdl;have:=h.pal;have:=h.pml;have:=h.pbl
   omega) (fun _ _=>rfl)
  have hne:=lists_phi_ne hs hes
  rw[r5.count (phiL_perm ht he) (fun w hw=>by
   rcases List.mem_append.1 hw with hw|hw
   ·rcases List.mem_append.1 hw with hw|hw
    ·exact hne w (List.mem_of_mem_erase (List.mem_of_mem_erase hw))
    ·rw[List.mem_singleton.1 hw];simp
   ·rw[List.mem_singleton.1 hw];simp),List.length_append,List.length_append,List.length_erase_of_mem hu2,List.length_erase_of_mem hv,lists_phi hs hes]
  have e1:0<(listsL (phiL s) s.length).length:=List.length_pos_of_mem hv
  have e2:0<((listsL (phiL s) s.length).erase v).length:=List.length_pos_of_mem hu2
  rw[List.length_erase_of_mem hv] at e2
  rw[lists_phi hs hes] at e1 e2
  simp only[List.length_singleton]
  omega
end
end
section
open Go.RowKit
set_option linter.unusedVariables false
theorem build_mapC (a:Option Addr) (n c:Nat) (r l:Int) (W:World):(Instr.build 27 #[(0,.slice a n c),(1,.int .i64 r),(2,.int .i64 l)]).run Tryz.prog W=.ok (.agg #[.slice a n c,.int .i64 r,.int .i64 l]) W:=by
 first|kernel_rfl|rfl
structure OutC (R:Reg) (w0 w:World) (bo gS m:Nat) (T:List Int) (r l:Int):Prop where
 ev:Ev R w0 R w
 nb:R bo=none
 blk:w.heap[bo]?=some (.cells #[.slice (some ⟨gS,0,none⟩) m m,.int .i64 r,.int .i64 l] 27 (0,0))
 own:OwnI R w0.heap.size 3 w (.slice (some ⟨gS,0,none⟩) m m) T
 lt:w0.heap.size≤bo
 ne:gS≠bo
 len:T.length=m
theorem OutC.putS {R:Reg} {w0 w:World} {bo gS m:Nat} {T:List Int} {r l:Int} (h:OutC R w0 w bo gS m T r l) {i:Nat} (hi:i<m) (y:Int):OutC R w0 (w.setCell ⟨gS,i,none⟩ (.int .i64 y)) bo gS m (T.set i y) r l where
 ev:=h.ev.setCell (h.own.lt gS rfl).1 (h.own.2 gS rfl) _
 nb:=h.nb
 blk:=by
  rw[Below.heap_setCell _ _ _ _ (by first|exact h.ne|exact h.ne.symm)]
  exact h.blk
 own:=h.own.put h.len i hi _
 lt:=h.lt
 ne:=h.ne
 len:=by rw[List.length_set];exact h.len
theorem OutC.putR {R:Reg} {w0 w:World} {bo gS m:Nat} {T:List Int} {r l:Int} (h:OutC R w0 w bo gS m T r l) (y:Int):OutC R w0 (w.setCell ⟨bo,1,none⟩ (.int .i64 y)) bo gS m T y l:=by
 have hnb:(Value.slice (some ⟨gS,0,none⟩) m m).ownBlock≠some (⟨bo,1,none⟩:Addr).block:=fun e=>h.ne (by simpa [Value.ownBlock] using e)
 exact⟨h.ev.setCell (p:=⟨bo,1,none⟩) h.lt h.nb _,h.nb,heap_setCell_same _ _ 1 _ _ _ h.blk,h.own.setCell hnb _,h.lt,h.ne,h.len⟩
theorem OutC.cells {R:Reg} {w0 w:World} {bo gS m:Nat} {T:List Int} {r l:Int} (h:OutC R w0 w bo gS m T r l):
  w.cell? ⟨bo,0,none⟩=some (.slice (some ⟨gS,0,none⟩) m m)∧w.cell? ⟨bo,1,none⟩=some (.int .i64 r)∧w.cell? ⟨bo,2,none⟩=some (.int .i64 l)∧∀ o,w.frozen? ⟨bo,o,none⟩=false:=boxC_cells h.blk
theorem OutC.drew {R:Reg} {w0 w:World} {bo gS m:Nat} {T:List Int} {r l:Int} (h:OutC R w0 w bo gS m T r l):OutC R w0 w.drew bo gS m T r l:=⟨h.ev.drew,h.nb,h.blk,h.own.drew,h.lt,h.ne,h.len⟩
theorem outC_first {R:Reg} {wb:World} {m:Nat} {r l:Int} (hI:Inv R wb) (hm:m≤maxLen):
  OutC R wb ((wb.alloc (.cells (madeCells #[.int .i64 0] m) 3)).alloc (.cells #[.slice (some ⟨wb.heap.size,0,none⟩) m m,.int .i64 r,.int .i64 l] 27)).drew (wb.heap.size+1) wb.heap.size m (List.replicate m 0) r l:=by
 have h:=rowI_made (B:=wb.heap.size) (n:=m) hI (Nat.le_refl _) hm
 rw[Nat.mul_one] at h
 refine⟨(((Ev.refl hI).alloc _).alloc _).drew,hI.none_of_ge (by omega),?_,(h.alloc _).drew,by omega,by omega,by simp⟩
 have e1:=heap_alloc_new (wb.alloc (.cells (madeCells #[.int .i64 0] m) 3)) (.cells #[.slice (some ⟨wb.heap.size,0,none⟩) m m,.int .i64 r,.int .i64 l] 27)
 have e2:(wb.alloc (.cells (madeCells #[.int .i64 0] m) 3)).heap.size=wb.heap.size+1:=by simp
 rw[e2] at e1
 exact e1
theorem outC_second {R:Reg} {wb:World} {m:Nat} {r l:Int} (hI:Inv R wb) (hm:m≤maxLen):
  OutC R wb ((wb.alloc (.cells #[.slice (some ⟨wb.heap.size+1,0,none⟩) m m,.int .i64 r,.int .i64 l] 27)).alloc (.cells (madeCells #[.int .i64 0] m) 3)).drew wb.heap.size (wb.heap.size+1) m (List.replicate m 0) r l:=by
 have hev:=(Ev.refl hI).alloc (.cells #[.slice (some ⟨wb.heap.size+1,0,none⟩) m m,.int .i64 r,.int .i64 l] 27)
 have h:=rowI_made (B:=wb.heap.size) (n:=m) hev.inv (by simp) hm
 rw[Nat.mul_one] at h
 refine⟨(hev.alloc _).drew,hI.none_of_ge (Nat.le_refl _),?_,by simpa using h.drew,Nat.le_refl _,by omega,by simp⟩
 show ((wb.alloc _).alloc _).heap[wb.heap.size]?=_
 rw[Below.heap_alloc _ _ _ (by simp)]
 exact heap_alloc_new wb _
set_option maxRecDepth 100000 in
set_option maxHeartbeats 4000000 in
theorem r11canon_some (R:Reg) (w:World) (hI:Inv R w) (v:Value) (s:List Nat) (root:Nat) (lone:Int) (hv:FreeI R w v (toI s)) (hS:IsPerm s) (hn:s.length≤131072) (he:s.length % 2=0) (hr:root<s.length):
  Calls Tryz.prog 78 #[refV v root lone] w (RetMap R w (relL s (canL s root)) 0 lone):=by
 obtain⟨a0,cap0,rfl,hv0⟩:=hv.open
 rw[toI_length] at hv hv0 ⊢
 have HNm:=Lib.hid (fun w' (hee:Ev R w R w')=>r11names_some R w' hee.inv _ s root lone (hv.ev hee) hS hn he hr)
 have htp:=canL_perm hS he hr
 have htl:(canL s root).length=s.length:=canP_length _ _
 have hroot:=canL_root hS he hr
 obtain⟨t,ht⟩:∃ t,canL s root=t:=⟨_,rfl⟩
 rw[ht] at HNm htp htl hroot ⊢
 have HGo:=Lib.hid (fun i (hi:i<s.length)=>relGo_set htp htl hi)
 have HGl:=Lib.hid (fun i=>relGo_length s t i)
 have hz:=relGo_zero s t
 have hal:=relGo_all htp htl
 have HRl:=Lib.hid (relL_length s t)
 have HTlt:=Lib.hid (fun i (hi:i<s.length)=>(by have:=htp.lt (i:=i) (by rw[htl];exact hi);omega:at' t i<s.length))
 have HSlt:=Lib.hid (fun i (hi:i<s.length)=>hS.lt hi)
 have HFv:=Lib.hid (fun R' w' (hee:Ev R w R' w')=>hv.ev hee)
 obtain⟨n,hnn⟩:∃ n,s.length=n:=⟨_,rfl⟩
 rw[hnn] at hz HNm htl HGo HGl hal HRl HTlt HSlt HFv hn he hr ⊢
 have HNn:=Lib.hid hnn
 have HTl:=Lib.hid htl
 have HAl:=Lib.hid hal
 have HZ:=Lib.hid hz
 unfold refV at HNm
 unfold refV
 obtain⟨i0,hi,hz0,hz1,hz2⟩:=info_parts int_info
 have hms1:=make_eq (n:=n) Tryz.underlying25 hi hz0 hz1 (by rw[hz2];omega) (by unfold maxLen;omega)
 have hbd:=build_mapC
 have he1:Ev R w R ((w.alloc (.cells #[.slice a0 n cap0,.int .i64 root,.int .i64 lone] 27)).alloc (.cells #[.slice none 0 0,.int .i64 0,.int .i64 0] 27)):=((Ev.refl hI).alloc _).alloc _
 have hb1:((w.alloc (.cells #[.slice a0 n cap0,.int .i64 root,.int .i64 lone] 27)).alloc (.cells #[.slice none 0 0,.int .i64 0,.int .i64 0] 27)).heap[w.heap.size]?=some (.cells #[.slice a0 n cap0,.int .i64 root,.int .i64 lone] 27 (0,0)):=by
  rw[Below.heap_alloc _ _ _ (by simp)]
  exact heap_alloc_new w _
 have hb2:((w.alloc (.cells #[.slice a0 n cap0,.int .i64 root,.int .i64 lone] 27)).alloc (.cells #[.slice none 0 0,.int .i64 0,.int .i64 0] 27)).heap[w.heap.size+1]?=some (.cells #[.slice none 0 0,.int .i64 0,.int .i64 0] 27 (0,0)):=by
  have:=heap_alloc_new (w.alloc (.cells #[.slice a0 n cap0,.int .i64 root,.int .i64 lone] 27)) (.cells #[.slice none 0 0,.int .i64 0,.int .i64 0] 27)
  simpa using this
 have hn1:R w.heap.size=none:=hI.none_of_ge (Nat.le_refl _)
 have hn2:R (w.heap.size+1)=none:=hI.none_of_ge (by omega)
 have HMl:=Lib.hid (show n≤maxLen by unfold maxLen;omega)
 go_enter Tryz.func78,Tryz.ntmps78
 go_upto_region 1 with fail
 obtain⟨wb,hwb⟩:∃ wb,wb=(w.alloc (.cells #[.slice a0 n cap0,.int .i64 root,.int .i64 lone] 27)).alloc (.cells #[.slice none 0 0,.int .i64 0,.int .i64 0] 27):=⟨_,rfl⟩
 have hwz:wb.heap.size=w.heap.size+1+1:=by rw[hwb];simp
 rw[←hwb] at he1 hb1 hb2 ⊢
 have HB1:=Lib.hid (fun w' (h:Ev R wb R w')=>h.boxC3 hb1 hn1)
 have HB2:=Lib.hid (fun w' (h:Ev R wb R w')=>h.boxC3 hb2 hn2)
 have HEb:=Lib.hid he1
 have HZb:=Lib.hid hwz
 obtain⟨x0,x1,x2,_⟩:=boxC_cells hb1
 clear hwb hb1 hb2 hn1 hn2 hI hv hv0 hS he1 hnn ht htp htl hz hal hwz
 go_wp2_with fail
 refine (HNm.out _ HEb.out).mono ?_
 rintro z w3 ⟨v3,rfl,he3,ho3⟩
 obtain⟨a3,c3,rfl,_⟩:=ho3.ints.open
 rw[toI_length,HTl.out] at ho3 ⊢
 have HE3:=Lib.hid he3
 have HO3:=Lib.hid ho3
 clear he3 ho3 x0 x1 x2
 obtain⟨x0,x1,x2,_⟩:=boxC_cells (HB1.out _ HE3.out).1
 have hlt0:w.heap.size<w3.heap.size:=lt_of_cell x0
 go_upto_region 2 with fail
 go_cut [4] (fun s4 wx=>∃ bo gS,s4=.pointer (some ⟨bo,0,none⟩)∧OutC R w3 wx bo gS n (List.replicate n 0) root lone)
 case first=>
  go_region
  all_goals (go_wp2_with fail;go_meet)
  all_goals first
   | exact⟨_,_,rfl,outC_first HE3.out.inv HMl.out⟩
   | exact⟨_,_,rfl,outC_second HE3.out.inv HMl.out⟩
 case rest=>
  obtain⟨bo,gS,rfl,hout⟩:=hcut
  obtain⟨w4,hw4⟩:∃ w4,w4=wc:=⟨_,rfl⟩
  subst hw4
  rw[←HZ.out] at hout
  have HOut:=Lib.hid hout
  clear hout hms1 hbd hi hz0 hz1 hz2 x0 x1 x2
  obtain⟨x0,x1,x2,_⟩:=boxC_cells (HB1.out _ (HE3.out.trans HOut.out.ev)).1
  go_wp2_with fail
  clear x0 x1 x2
  go_loopg [21] n (fun g v21 wr=>∃ i:Nat,i≤n∧n-i≤g∧v21=.int .i64 (i:Int)∧OutC R w3 wr bo gS n (relGo s t i) root lone)
  case atStart=>exact⟨0,Nat.zero_le _,by omega,rfl,HOut.out⟩
  case round=>
   obtain⟨i,hi,hg,rfl,ho⟩:=hrel
   have HO:=Lib.hid ho
   clear ho
   by_cases hin:i<n
   ·have hgo:=HGo.out i hin
    have htl1:=HTlt.out i hin
    have hsl1:=HSlt.out i hin
    have htl2:=HTlt.out (at' s i) hsl1
    obtain⟨bS,oS,e1,hcs⟩:=(HFv.out _ _ (HEb.out.trans (HE3.out.trans HO.out.ev))).1.cell (i:=i) (by rw[toI_length,HNn.out];exact hin)
    subst e1
    rw[toI_nth] at hcs
    have hp3:=HO3.out.ev HO.out.ev
    obtain⟨g3,e2,_,_,k1,_⟩:=hp3.headAt (by rw[toI_length];exact HTl.out) hin
    subst e2
    obtain⟨_,e2,_,_,k2,_⟩:=hp3.headAt (by rw[toI_length];exact HTl.out) hsl1
    cases e2
    rw[toI_nth] at k1 k2
    obtain⟨x,hx⟩:∃ x,at' s i=x:=⟨_,rfl⟩
    rw[hx] at hcs hsl1 htl2 k2 hgo
    obtain⟨y1,hy1⟩:∃ x,at' t i=x:=⟨_,rfl⟩
    rw[hy1] at htl1 k1 hgo
    obtain⟨y2,hy2⟩:∃ y,at' t x=y:=⟨_,rfl⟩
    rw[hy2] at htl2 k2 hgo
    obtain⟨c0,c1,c2,cz⟩:=HO.out.cells
    obtain⟨_,e2,hBg,hRg,kc,zc⟩:=HO.out.own.headAt (HGl.out i) htl1
    cases e2
    have HGg:=Lib.hid hgo
    clear hgo hx hy1 hy2 hp3 c1 c2 cz
    go_upto_region 6 with fail
    go_still_tail 11,(by kernel_rfl)
    change wpList _ _ _ _ _ wr.drew
    obtain⟨w7,hw7⟩:∃ w7,w7=wr.drew:=⟨_,rfl⟩
    have hz7:w7.frozen? ⟨gS,y1,none⟩=false:=by rw[hw7];exact zc
    have hc7:w7.cell? ⟨gS,y1,none⟩=some (.int .i64 (nth (relGo s t i) y1)):=by rw[hw7];exact kc
    have HO7:Hid (OutC R w3 (w7.setCell ⟨gS,y1,none⟩ (.int .i64 ((y2:Nat):Int))) bo gS n (relGo s t (i+1)) root lone):=Lib.hid (by
     rw[hw7,←HGg.out]
     exact HO.out.drew.putS htl1 ((y2:Nat):Int))
    rw[←hw7]
    clear hw7 zc kc c0 hcs k1 k2
    go_wp2_with fail
    go_roundg (n-(i+1))
    case measure=>omega
    case rel=>exact⟨i+1,by omega,by omega,by go_num,HO7.out⟩
   ·obtain rfl:i=n:=by omega
    obtain⟨x0,x1,x2,_⟩:=boxC_cells (HB1.out _ (HE3.out.trans HO.out.ev)).1
    obtain⟨g3,e2,_,_,k1,_⟩:=(HO3.out.ev HO.out.ev).headAt (by rw[toI_length];exact HTl.out) hr
    subst e2
    rw[toI_nth,hroot] at k1
    obtain⟨c0,c1,c2,cz⟩:=HO.out.cells
    have hip:0<i:=by omega
    have hOf:=HO.out.putR 0
    rw[HAl.out] at hOf
    go_upto_region 10 with fail
    obtain⟨w7,hw7⟩:∃ w7,w7=wr.setCell ⟨bo,1,none⟩ (.int .i64 0):=⟨_,rfl⟩
    rw[←hw7] at hOf
    first|rw[←hw7]|skip
    have HOf:=Lib.hid hOf
    clear hw7 hOf c0 c1 c2 cz x0 x1 x2 k1
    obtain⟨c0,c1,c2,cz⟩:=HOf.out.cells
    have hEv7:=HE3.out.trans HOf.out.ev
    obtain⟨y0,y1,y2,yz⟩:=boxC_cells (HB2.out _ hEv7).1
    go_wp2_with fail
    have hb3:=set3 (x:=.slice (some ⟨gS,0,none⟩) i i) (y:=.int .i64 0) (z:=.int .i64 lone) (HB2.out _ hEv7).1
    obtain⟨u0,u1,u2,_⟩:=boxC_cells hb3
    have hn2:=(HB2.out _ hEv7).2
    have hgr:=(HOf.out.own.lt gS rfl).1
    have hz3:=HE3.out.size
    refine bodyPost_ret (v:=refV (.slice (some ⟨gS,0,none⟩) i i) 0 lone) ?_ rfl ?_
    ·simp[results,Tryz.results78,go_sem,u0,u1,u2,refV]
    ·refine⟨some ⟨gS,0,none⟩,i,by rw[HRl.out],?_,?_⟩
     ·exact (((HEb.out.trans hEv7).setCell (by simp) hn2 _).setCell (by simp) hn2 _).setCell (by simp) hn2 _
     ·have hne:∀ (o:Nat),(Value.slice (some ⟨gS,0,none⟩) i i).ownBlock≠some (⟨w.heap.size+1,o,none⟩:Addr).block:=fun o e'=>by
       have h1:gS=w.heap.size+1:=by simpa [Value.ownBlock] using e'
       have h2:=HZb.out
       omega
      rw[HRl.out]
      exact (((HOf.out.own.mono (by have:=HZb.out;omega)).setCell (hne 0) _).setCell (hne 1) _).setCell (hne 2) _
end
section
open Go.RowKit Go.Maps
set_option linter.unusedVariables false
set_option maxRecDepth 100000 in
set_option maxHeartbeats 2000000 in
theorem r11names_none (R:Reg) (w:World) (hI:Inv R w) (v:Value) (root lone:Int) (hv:FreeI R w v (toI [])):
  Calls Tryz.prog 122 #[refV v root lone] w (RetOwn R w []):=by
 obtain⟨a0,cap0,rfl,hv0⟩:=hv.open
 simp only[toI,List.map_nil,List.length_nil] at hv hv0 ⊢
 have HNm:=Lib.hid (fun w' (hee:Ev R w R w')=>(r8names_any R w' hee.inv _ [] root lone (hv.ev hee) (range_perm 0) (by simp) rfl:Calls Tryz.prog 141 #[refV (.slice a0 0 cap0) root lone] w' (RetOwn R w' [])))
 unfold refV at HNm
 unfold refV
 have he1:Ev R w R (w.alloc (.cells #[.slice a0 0 cap0,.int .i64 root,.int .i64 lone] 27)):=(Ev.refl hI).alloc _
 have hn1:R w.heap.size=none:=hI.none_of_ge (Nat.le_refl _)
 have HB1:=Lib.hid (fun w' (h:Ev R (w.alloc (.cells #[.slice a0 0 cap0,.int .i64 root,.int .i64 lone] 27)) R w')=>h.boxC3 (heap_alloc_new w _) hn1)
 have hmm:=@run_makeMap Tryz.prog
 obtain⟨wa,hwa⟩:∃ wa,wa=w.alloc (.cells #[.slice a0 0 cap0,.int .i64 root,.int .i64 lone] 27):=⟨_,rfl⟩
 have HEa:Hid (Ev R w R wa):=Lib.hid (by rw[hwa];exact he1)
 have HEm:=Lib.hid ((Ev.refl HEa.out.inv).alloc (.map #[] 0))
 rw[←hwa] at HB1
 obtain⟨x0,x1,x2,_⟩:=boxC_cells (HB1.out _ HEm.out).1
 have hwz:wa.heap.size=w.heap.size+1:=by rw[hwa];simp
 clear hI hv hv0 he1 hn1
 go_enter Tryz.func122,Tryz.ntmps122
 go_upto_region 2 with fail
 rw[←hwa]
 rw[←hwz]
 clear hwa hwz
 go_wp2_with fail
 refine (HNm.out _ (HEa.out.trans HEm.out)).mono ?_
 rintro z w2 ⟨v2,rfl,he2,ho2⟩
 obtain⟨aN,cN,rfl,_⟩:=ho2.ints.open
 rw[show (partsL []).length=0 from rfl]
 obtain⟨b,hb⟩:∃ b,wa.heap.size=b:=⟨_,rfl⟩
 rw[hb]
 have HE2:=Lib.hid (HEm.out.trans he2)
 obtain⟨x0,x1,x2,_⟩:=boxC_cells (HB1.out _ HE2.out).1
 clear he2 ho2 hmm hb
 go_wp2_with fail
 go_loopg [5,35] 0 (fun g v5 v35 wr=>v5=.slice none 0 0∧v35=.int .i64 0∧wr=w2)
 case atStart=>exact⟨rfl,rfl,rfl⟩
 case round=>
  obtain⟨rfl,rfl,rfl⟩:=hrel
  go_wp2_with fail
  obtain⟨w3,hw3⟩:∃ x,x=wr:=⟨_,rfl⟩
  subst hw3
  go_loopg [69] 0 (fun g v69 wr=>v69=.int .i64 0∧wr=w3)
  case atStart=>exact⟨rfl,rfl⟩
  case round=>
   obtain⟨rfl,rfl⟩:=hrel
   obtain⟨i0,hi0,hz0,hz1,hz2⟩:=info_parts int_info
   go_wp2_with (first|(refine wpList_make_full _ rfl _ _ 25 rfl wr.heap.size 3 i0 (.int .i64 0) 1 Tryz.underlying25 hi0 hz0 hz1 .i64 .i64 0 0 0 rfl rfl rfl rfl ?q1 ?q2 (Nat.le_refl _) ?_))
   case q1=>rw[hz2];omega
   case q2=>unfold maxLen;omega
   intro w6 ho6 hg6
   have HE6:=Lib.hid ((HEa.out.trans HE2.out).grown hg6 (by simp))
   have hO6:OwnI R wr.heap.size 3 w6 (.slice (some ⟨wr.heap.size,0,none⟩) 0 0) []:=OwnI.made (n:=0) HE2.out.inv ho6
   have HO6:=Lib.hid (hO6.mono (B':=w.heap.size) (HEa.out.trans HE2.out).size)
   clear ho6 hg6 hO6 x0 x1 x2 hi0 hz0 hz1 hz2
   go_wp2_with fail
   obtain⟨g6,hg6⟩:∃ g,wr.heap.size=g:=⟨_,rfl⟩
   rw[hg6] at HO6 ⊢
   go_loopg [111] 0 (fun g v111 wq=>v111=.int .i64 0∧wq=w6)
   case atStart=>exact⟨rfl,rfl⟩
   case round=>
    obtain⟨rfl,rfl⟩:=hrel
    go_wp2_with fail
    go_ret
    exact⟨_,rfl,HE6.out,HO6.out⟩
set_option maxRecDepth 100000 in
set_option maxHeartbeats 4000000 in
theorem r11canon_none (R:Reg) (w:World) (hI:Inv R w) (v:Value) (root lone:Int) (hv:FreeI R w v (toI [])):
  Calls Tryz.prog 78 #[refV v root lone] w (RetMap R w [] root lone):=by
 obtain⟨a0,cap0,rfl,hv0⟩:=hv.open
 have HNm:=Lib.hid (fun w' (hee:Ev R w R w')=>r11names_none R w' hee.inv _ root lone (hv.ev hee))
 simp only[toI,List.map_nil,List.length_nil] at HNm hv hv0 ⊢
 unfold refV at HNm
 unfold refV
 obtain⟨i0,hi,hz0,hz1,hz2⟩:=info_parts int_info
 have hms1:=make_eq (n:=0) Tryz.underlying25 hi hz0 hz1 (by rw[hz2];omega) (by unfold maxLen;omega)
 have hms2:∀ (W:World),(Instr.makeSlice 25 (.int .i64 0) (.int .i64 0)).run Tryz.prog W=.ok (.slice (some ⟨W.heap.size,0,none⟩) 0 0) (W.alloc (.cells (madeCells #[.int .i64 0] 0) 3)):=fun W=>hms1 W
 have hbd:=build_mapC
 have he1:Ev R w R ((w.alloc (.cells #[.slice a0 0 cap0,.int .i64 root,.int .i64 lone] 27)).alloc (.cells #[.slice none 0 0,.int .i64 0,.int .i64 0] 27)):=((Ev.refl hI).alloc _).alloc _
 have hb1:((w.alloc (.cells #[.slice a0 0 cap0,.int .i64 root,.int .i64 lone] 27)).alloc (.cells #[.slice none 0 0,.int .i64 0,.int .i64 0] 27)).heap[w.heap.size]?=some (.cells #[.slice a0 0 cap0,.int .i64 root,.int .i64 lone] 27 (0,0)):=by
  rw[Below.heap_alloc _ _ _ (by simp)]
  exact heap_alloc_new w _
 have hb2:((w.alloc (.cells #[.slice a0 0 cap0,.int .i64 root,.int .i64 lone] 27)).alloc (.cells #[.slice none 0 0,.int .i64 0,.int .i64 0] 27)).heap[w.heap.size+1]?=some (.cells #[.slice none 0 0,.int .i64 0,.int .i64 0] 27 (0,0)):=by
  have:=heap_alloc_new (w.alloc (.cells #[.slice a0 0 cap0,.int .i64 root,.int .i64 lone] 27)) (.cells #[.slice none 0 0,.int .i64 0,.int .i64 0] 27)
  simpa using this
 have hn1:R w.heap.size=none:=hI.none_of_ge (Nat.le_refl _)
 have hn2:R (w.heap.size+1)=none:=hI.none_of_ge (by omega)
 go_enter Tryz.func78,Tryz.ntmps78
 go_upto_region 1 with fail
 obtain⟨wb,hwb⟩:∃ wb,wb=(w.alloc (.cells #[.slice a0 0 cap0,.int .i64 root,.int .i64 lone] 27)).alloc (.cells #[.slice none 0 0,.int .i64 0,.int .i64 0] 27):=⟨_,rfl⟩
 have hwz:wb.heap.size=w.heap.size+1+1:=by rw[hwb];simp
 rw[←hwb] at he1 hb1 hb2 ⊢
 have HB1:=Lib.hid (fun w' (h:Ev R wb R w')=>h.boxC3 hb1 hn1)
 have HB2:=Lib.hid (fun w' (h:Ev R wb R w')=>h.boxC3 hb2 hn2)
 have HEb:=Lib.hid he1
 have HZb:=Lib.hid hwz
 obtain⟨x0,x1,x2,_⟩:=boxC_cells hb1
 clear hwb hb1 hb2 hn1 hn2 hI hv hv0 he1 hwz
 go_wp2_with fail
 refine (HNm.out _ HEb.out).mono ?_
 rintro z w3 ⟨v3,rfl,he3,ho3⟩
 obtain⟨a3,c3,rfl,_⟩:=ho3.ints.open
 rw[List.length_nil]
 have HE3:=Lib.hid he3
 clear he3 ho3 x0 x1 x2
 obtain⟨x0,x1,x2,_⟩:=boxC_cells (HB1.out _ HE3.out).1
 have hlt0:w.heap.size<w3.heap.size:=lt_of_cell x0
 go_upto_region 2 with fail
 go_cut [4] (fun s4 wx=>∃ bo gS,s4=.pointer (some ⟨bo,0,none⟩)∧OutC R w3 wx bo gS 0 [] root lone)
 case first=>
  go_region
  all_goals (go_wp2_with fail;go_meet)
  all_goals first
   | exact⟨_,_,rfl,outC_first (m:=0) HE3.out.inv (Nat.zero_le _)⟩
   | exact⟨_,_,rfl,outC_second (m:=0) HE3.out.inv (Nat.zero_le _)⟩
 case rest=>
  obtain⟨bo,gS,rfl,hout⟩:=hcut
  obtain⟨w4,hw4⟩:∃ w4,w4=wc:=⟨_,rfl⟩
  subst hw4
  have HOut:=Lib.hid hout
  clear hout hms1 hms2 hbd hi hz0 hz1 hz2 x0 x1 x2
  obtain⟨x0,x1,x2,_⟩:=boxC_cells (HB1.out _ (HE3.out.trans HOut.out.ev)).1
  go_wp2_with fail
  go_loopg [21] 0 (fun g v21 wr=>v21=.int .i64 0∧wr=w4)
  case atStart=>exact⟨rfl,rfl⟩
  case round=>
   obtain⟨rfl,rfl⟩:=hrel
   obtain⟨c0,c1,c2,cz⟩:=HOut.out.cells
   have hEv7:=HE3.out.trans HOut.out.ev
   obtain⟨y0,y1,y2,yz⟩:=boxC_cells (HB2.out _ hEv7).1
   go_wp2_with fail
   have hb3:=set3 (x:=.slice (some ⟨gS,0,none⟩) 0 0) (y:=.int .i64 root) (z:=.int .i64 lone) (HB2.out _ hEv7).1
   obtain⟨u0,u1,u2,_⟩:=boxC_cells hb3
   have hn2:=(HB2.out _ hEv7).2
   have hgr:=(HOut.out.own.lt gS rfl).1
   have hz3:=HE3.out.size
   refine bodyPost_ret (v:=refV (.slice (some ⟨gS,0,none⟩) 0 0) root lone) ?_ rfl ?_
   ·simp[results,Tryz.results78,go_sem,u0,u1,u2,refV]
   ·refine⟨some ⟨gS,0,none⟩,0,rfl,?_,?_⟩
    ·exact (((HEb.out.trans hEv7).setCell (by simp) hn2 _).setCell (by simp) hn2 _).setCell (by simp) hn2 _
    ·have hne:∀ (o:Nat),(Value.slice (some ⟨gS,0,none⟩) 0 0).ownBlock≠some (⟨w.heap.size+1,o,none⟩:Addr).block:=fun o e'=>by
      have h1:gS=w.heap.size+1:=by simpa [Value.ownBlock] using e'
      have h2:=HZb.out
      omega
     exact (((HOut.out.own.mono (by have:=HZb.out;omega)).setCell (hne 0) _).setCell (hne 1) _).setCell (hne 2) _
theorem r11names_any (R:Reg) (w:World) (hI:Inv R w) (v:Value) (s:List Nat) (root lone:Int) (hv:FreeI R w v (toI s)) (hS:IsPerm s) (hok:MapOk s root lone) (hn:s.length≤131072):
  Calls Tryz.prog 122 #[refV v root lone] w (RetOwn R w (toI (canPm s root))):=by
 by_cases h0:s.length=0
 ·obtain rfl:=List.eq_nil_of_length_eq_zero h0
  exact r11names_none R w hI v root lone hv
 ·obtain⟨r,rfl,hr⟩:∃ r:Nat,root=(r:Int)∧r<s.length:=⟨root.toNat,by have:=hok.2.2.2.2;omega,by have:=hok.2.2.2.2;omega⟩
  unfold canPm
  rw[if_neg h0,Int.toNat_natCast]
  exact r11names_some R w hI v s r lone hv hS hn hok.1 hr
theorem r11canon_any (R:Reg) (w:World) (hI:Inv R w) (v:Value) (s:List Nat) (root lone:Int) (hv:FreeI R w v (toI s)) (hS:IsPerm s) (hok:MapOk s root lone) (hn:s.length≤131072):
  Calls Tryz.prog 78 #[refV v root lone] w (RetMap R w (canM s root) (canR s root) lone):=by
 by_cases h0:s.length=0
 ·obtain rfl:=List.eq_nil_of_length_eq_zero h0
  exact r11canon_none R w hI v root lone hv
 ·obtain⟨r,rfl,hr⟩:∃ r:Nat,root=(r:Int)∧r<s.length:=⟨root.toNat,by have:=hok.2.2.2.2;omega,by have:=hok.2.2.2.2;omega⟩
  unfold canM canR
  rw[if_neg h0,if_neg h0,Int.toNat_natCast]
  exact r11canon_some R w hI v s r lone hv hS hn hok.1 hr
end
end Go.Proofs.YtklkgicjfnbndaaGreat
