/- parquetryref14.Neighbours: of a triangulation's vertex, from one of its darts on. -/
import Derived.Test.YtgphnkkdmlohlaaGreatDoorZWoodNo45
import Derived.Test.YtgphnkkdmlohlaaGreatDoorZWoodNo09
import Derived.Test.YtgphnkkdmlohlaaGreatDoorZWoodNo27
import Derived.Test.YtgphnkkdmlohlaaGreatDoorZWoodNo36
import Derived.Test.YtgphnkkdmlohlaaGreatDoorZWoodNo38
import Derived.Test.YtgphnkkdmlohlaaGreatDoorZWoodNo40
import Derived.Test.YtgphnkkdmlohlaaGreatDoorZWoodNo21
import Derived.Test.YtgphnkkdmlohlaaGreatDoorZWoodNo39
import Derived.Test.YtgphnkkdmlohlaaGreatDoorZWoodNo43
namespace Go.Proofs.YtgphnkkdmlohlaaGreatDoor
section
open Go.RowKit
set_option linter.unusedVariables false
set_option linter.unusedSimpArgs false
end
section
open Go.RowKit
set_option linter.unusedVariables false
set_option linter.unusedSimpArgs false
set_option linter.unusedSectionVars false
section
variable {s : List Nat} (h : TriS s) {d : Nat} (hd : d < s.length)
include h hd
end
end
section
set_option linter.unusedVariables false
set_option linter.unusedSectionVars false
section
variable {s : List Nat} (h : TriS s)
include h
end
end
section
set_option linter.unusedVariables false
set_option linter.unusedSectionVars false
section
variable {s : List Nat} (h : TriS s) {r : Nat} (hr : r < s.length) {pl : Int → Nat} (hp : Place (orderL s r) pl)
include h
include hr hp
theorem corner_outer {d:Nat} (hd:d<s.length) (hc:cornZ s r d=true):∃ a b,a<s.length∧b<s.length∧a≠b∧nth (namesL s) a=nth (namesL s) d∧nth (namesL s) b=nth (namesL s) d∧outZ s r a=true∧outZ s r b=true∧∀ x,x<s.length→nth (namesL s) x=nth (namesL s) d→outZ s r x=true→x=a∨x=b:=by
 have l1:=h.phl hr
 have l2:=h.phl l1
 have m0:=xor_one_lt h.even hr
 have m1:=xor_one_lt h.even l1
 have m2:=xor_one_lt h.even l2
 have e0:nth (namesL s) (r ^^^ 1)=nth (namesL s) (at' (phiL s) r):=(names_phi h.perm h.even hr).symm
 have e1:nth (namesL s) (at' (phiL s) r ^^^ 1)=nth (namesL s) (at' (phiL s) (at' (phiL s) r)):=(names_phi h.perm h.even l1).symm
 have e2:nth (namesL s) (at' (phiL s) (at' (phiL s) r) ^^^ 1)=nth (namesL s) r:=by rw[←names_phi h.perm h.even l2,(h.three r hr).1]
 have b:=h.big
 have p0:=plc_first h hr hp
 have p1:=plc_second h hr hp
 have p2:=plc_last h hr hp
 have q0:=h.loop r hr
 obtain⟨a1,ha1⟩:∃ a,at' (phiL s) r=a:=⟨_,rfl⟩
 rw[ha1] at l1 l2 m1 m2 e0 e1 e2 p1 p2
 obtain⟨a2,ha2⟩:∃ a,at' (phiL s) a1=a:=⟨_,rfl⟩
 rw[ha2] at l2 m2 e1 e2 p2
 have cz:∀ x,cornZ s r x=true↔nth (namesL s) x=nth (namesL s) r∨nth (namesL s) x=nth (namesL s) a1∨nth (namesL s) x=nth (namesL s) a2:=fun x=>by
  unfold cornZ
  rw[ha1,ha2]
  simp only[Bool.or_eq_true,beq_iff_eq,or_assoc]
 have d01:nth (namesL s) r≠nth (namesL s) a1:=fun e=>by rw[e] at p0;omega
 have d02:nth (namesL s) r≠nth (namesL s) a2:=fun e=>by rw[e] at p0;omega
 have d12:nth (namesL s) a1≠nth (namesL s) a2:=fun e=>by rw[e] at p1;omega
 have oz:∀ x,cornZ s r x=true→cornZ s r (x ^^^ 1)=true→outZ s r x=true:=fun x k1 k2=>by unfold outZ;rw[k1,k2];rfl
 have key:∀ a b:Nat,a<s.length→b<s.length→nth (namesL s) a=nth (namesL s) d→nth (namesL s) b=nth (namesL s) d→nth (namesL s) (a ^^^ 1)≠nth (namesL s) (b ^^^ 1)→cornZ s r (a ^^^ 1)=true→cornZ s r (b ^^^ 1)=true →
   (∀ x,x<s.length→nth (namesL s) x=nth (namesL s) d→cornZ s r (x ^^^ 1)=true→nth (namesL s) (x ^^^ 1)=nth (namesL s) (a ^^^ 1)∨nth (namesL s) (x ^^^ 1)=nth (namesL s) (b ^^^ 1)) →
   ∃ a b,a<s.length∧b<s.length∧a≠b∧nth (namesL s) a=nth (namesL s) d∧nth (namesL s) b=nth (namesL s) d∧outZ s r a=true∧outZ s r b=true∧∀ x,x<s.length→nth (namesL s) x=nth (namesL s) d→outZ s r x=true→x=a∨x=b:=fun a b ka kb na nb nab ca cb hx=>
  have ce:∀ x,nth (namesL s) x=nth (namesL s) d→cornZ s r x=true:=fun x e=>by unfold cornZ at hc ⊢;rw[e];exact hc
  ⟨a,b,ka,kb,fun e=>nab (by rw[e]),na,nb,oz a (ce a na) ca,oz b (ce b nb) cb,fun x xl xn xo=>by
   unfold outZ at xo
   rw[Bool.and_eq_true] at xo
   rcases hx x xl xn xo.2 with k|k
   ·exact .inl (h.dbl _ _ xl ka (by rw[xn,na]) k)
   ·exact .inr (h.dbl _ _ xl kb (by rw[xn,nb]) k)⟩
 rcases (cz d).1 hc with k|k|k
 ·refine key r (a2 ^^^ 1) hr m2 k.symm (by rw[e2,k]) (by rw[e0,xor_one_one];exact d12) ((cz _).2 (.inr (.inl e0))) ((cz _).2 (by rw[xor_one_one];exact .inr (.inr rfl))) fun x xl xn xo=>?_
  rw[e0,xor_one_one]
  rcases (cz _).1 xo with w|w|w
  ·exact absurd (by rw[xn,k,w]) (h.loop x xl)
  ·exact .inl w
  ·exact .inr w
 ·refine key a1 (r ^^^ 1) l1 m0 k.symm (by rw[e0,k]) (by rw[e1,xor_one_one];exact fun e=>d02 e.symm) ((cz _).2 (.inr (.inr e1))) ((cz _).2 (by rw[xor_one_one];exact .inl rfl)) fun x xl xn xo=>?_
  rw[e1,xor_one_one]
  rcases (cz _).1 xo with w|w|w
  ·exact .inr w
  ·exact absurd (by rw[xn,k,w]) (h.loop x xl)
  ·exact .inl w
 ·refine key a2 (a1 ^^^ 1) l2 m1 k.symm (by rw[e1,k]) (by rw[e2,xor_one_one];exact d01) ((cz _).2 (.inl e2)) ((cz _).2 (by rw[xor_one_one];exact .inr (.inl rfl))) fun x xl xn xo=>?_
  rw[e2,xor_one_one]
  rcases (cz _).1 xo with w|w|w
  ·exact .inl w
  ·exact .inr w
  ·exact absurd (by rw[xn,k,w]) (h.loop x xl)
theorem col_count {c:Int} (h0:0≤c) (h2:c≤2):tally (fun x=>colZ s r pl x=c) s.length+3=(sizesL s).length:=by
 have e1:=sumQ_tally (vtx s) (fun x=>colZ s r pl x=c) (sizesL s).length s.length
 have e2:tally (fun x=>colZ s r pl x=c∧vtx s x<(sizesL s).length) s.length=tally (fun x=>colZ s r pl x=c) s.length:=tally_congr fun x hx=>⟨fun k=>k.1,fun k=>⟨k,vtx_lt h.perm hx⟩⟩
 rw[e2] at e1
 have l1:=h.phl hr
 have l2:=h.phl l1
 have b:=h.big
 have p0:=plc_first h hr hp
 have p1:=plc_second h hr hp
 have p2:=plc_last h hr hp
 obtain⟨a0,ha0⟩:∃ a,vtx s r=a:=⟨_,rfl⟩
 obtain⟨a1,ha1⟩:∃ a,vtx s (at' (phiL s) r)=a:=⟨_,rfl⟩
 obtain⟨a2,ha2⟩:∃ a,vtx s (at' (phiL s) (at' (phiL s) r))=a:=⟨_,rfl⟩
 have v0:=vtx_eq h.perm hr
 have v1:=vtx_eq h.perm l1
 have v2:=vtx_eq h.perm l2
 have t0:=vtx_lt h.perm hr
 have t1:=vtx_lt h.perm l1
 have t2:=vtx_lt h.perm l2
 rw[ha0] at v0 t0
 rw[ha1] at v1 t1
 rw[ha2] at v2 t2
 have d01:a0≠a1:=fun e=>by rw[v0,e,←v1] at p0;omega
 have d02:a0≠a2:=fun e=>by rw[v0,e,←v2] at p0;omega
 have d12:a1≠a2:=fun e=>by rw[v1,e,←v2] at p1;omega
 have cv:∀ x,x<s.length→(cornZ s r x=true↔a0=vtx s x∨a1=vtx s x∨a2=vtx s x):=fun x hx=>by
  have:=vtx_eq h.perm hx
  unfold cornZ
  simp only[Bool.or_eq_true,beq_iff_eq,or_assoc]
  rw[this,v0,v1,v2]
  omega
 have each:∀ i,i<(sizesL s).length→tally (fun e=>colZ s r pl e=c∧vtx s e=i) s.length+(ind (a0=i)+ind (a1=i)+ind (a2=i))=1:=fun i hi=>by
  obtain⟨x,hx,ex⟩:=h.named hi
  have vx:vtx s x=i:=by have:=vtx_eq h.perm hx;omega
  have nm:∀ y,y<s.length→vtx s y=i→nth (namesL s) y=nth (namesL s) x:=fun y hy e=>by rw[vtx_eq h.perm hy,vtx_eq h.perm hx,e,vx]
  cases hc:cornZ s r x
  ·obtain⟨d,d1,d2,d3,d4⟩:=col_unique h hr hp hx hc h0 h2
   have dv:vtx s d=i:=by have:=vtx_eq h.perm d1;have:=vtx_eq h.perm hx;omega
   have nc:¬ (a0=i∨a1=i∨a2=i):=fun k=>by
    have:=(cv x hx).2 (by rw[vx];exact k)
    rw[this] at hc;cases hc
   rw[tally_but (p:=fun e=>colZ s r pl e=c∧vtx s e=i) (a:=d) d1 ⟨d3,dv⟩,tally_none (fun y hy q=>q.2 (d4 y hy (nm y hy q.1.2) q.1.1)),ind_no (fun e=>nc (.inl e)),ind_no (fun e=>nc (.inr (.inl e))),ind_no (fun e=>nc (.inr (.inr e)))]
  ·rw[tally_none (fun y hy q=>by
    have:=col_corner h hr hp hy (by unfold cornZ at hc ⊢;rw[nm y hy q.2];exact hc)
    omega)]
   have k:=(cv x hx).1 hc
   rw[vx] at k
   rcases k with k|k|k
   ·rw[ind_yes k,ind_no (fun e=>d01 (by omega)),ind_no (fun e=>d02 (by omega))]
   ·rw[ind_yes k,ind_no (fun e=>d01 (by omega)),ind_no (fun e=>d12 (by omega))]
   ·rw[ind_yes k,ind_no (fun e=>d02 (by omega)),ind_no (fun e=>d12 (by omega))]
 have s1:=sumQ_congr (g:=fun _=>1) (n:=(sizesL s).length) each
 have one:∀ n,sumQ (fun _=>1) n=n:=fun n=>by
  induction n with
  | zero=>rfl
  | succ n ih=>show sumQ (fun _=>1) n+1=n+1;rw[ih]
 rw[one] at s1
 have s2:=sumQ_add (fun i=>tally (fun e=>colZ s r pl e=c∧vtx s e=i) s.length) (fun i=>ind (a0=i)+ind (a1=i)+ind (a2=i)) (sizesL s).length
 have s3:=sumQ_add (fun i=>ind (a0=i)+ind (a1=i)) (fun i=>ind (a2=i)) (sizesL s).length
 have s4:=sumQ_add (fun i=>ind (a0=i)) (fun i=>ind (a1=i)) (sizesL s).length
 rw[sumQ_ind,sumQ_ind,ind_yes t0,ind_yes t1] at s4
 rw[sumQ_ind,ind_yes t2,s4] at s3
 rw[s3] at s2
 have s5:sumQ (fun k=>tally (fun e=>colZ s r pl e=c∧vtx s e=k) s.length+(ind (a0=k)+ind (a1=k)+ind (a2=k))) (sizesL s).length=(sizesL s).length:=s1
 rw[s5] at s2
 omega
end
end
section
open Go.RowKit
set_option linter.unusedVariables false
set_option linter.unusedSimpArgs false
theorem out_count {s:List Nat} (h:TriS s) {r:Nat} (hr:r<s.length):tally (fun x=>0≤nth (woodR s r) x) s.length+9=3*(sizesL s).length:=by
 have hp:=plC_own h hr
 have e:tally (fun x=>0≤nth (woodR s r) x) s.length=tally (fun x=>0≤colZ s r (plC (orderL s r)) x) s.length:=tally_congr fun x hx=>by rw[woodR_at h hr hx]
 have c0:=col_count h hr hp (c:=0) (by decide) (by decide)
 have c1:=col_count h hr hp (c:=1) (by decide) (by decide)
 have c2:=col_count h hr hp (c:=2) (by decide) (by decide)
 rw[e]
 obtain⟨f,hf⟩:∃ f:Nat→Int,colZ s r (plC (orderL s r))=f:=⟨_,rfl⟩
 have hg:=fun x=>col_range h hr hp x
 rw[hf] at c0 c1 c2 hg ⊢
 have t1:=tally_split (fun x=>0≤f x) (fun x=>f x=0) s.length
 have t2:=tally_split (fun x=>0≤f x∧¬ f x=0) (fun x=>f x=1) s.length
 have k1:tally (fun x=>0≤f x∧f x=0) s.length=tally (fun x=>f x=0) s.length:=tally_congr fun x _=>⟨fun k=>k.2,fun k=>⟨by omega,k⟩⟩
 have k2:tally (fun x=>(0≤f x∧¬ f x=0)∧f x=1) s.length=tally (fun x=>f x=1) s.length:=tally_congr fun x _=>⟨fun k=>k.2,fun k=>⟨⟨by omega,by omega⟩,k⟩⟩
 have k3:tally (fun x=>(0≤f x∧¬ f x=0)∧¬ f x=1) s.length=tally (fun x=>f x=2) s.length:=tally_congr fun x _=>by have:=hg x;exact⟨fun k=>by omega,fun k=>⟨⟨by omega,by omega⟩,by omega⟩⟩
 omega
theorem three_none {s:List Nat} (h:TriS s) {r:Nat} (hr:r<s.length) (h3:(sizesL s).length=3) {x:Nat} (hx:x<s.length):nth (woodR s r) x=-1:=by
 have hp:=plC_own h hr
 rw[woodR_at h hr hx]
 have c:∀ y,y<s.length→cornZ s r y=true:=fun y hy=>(corn_iff h hr hp hy).2 (by have:=pl_ltV h hr hp hy;omega)
 exact col_outer h hr hp (by unfold outZ;rw[c x hx,c _ (xor_one_lt h.even hx)];rfl)
theorem FreeB.two {R:Reg} {w:World} (hI:Inv R w) (a b:Nat) (ha:a≤255) (hb:b≤255):FreeB R (w.alloc (.cells #[.int .u8 (a:Int),.int .u8 (b:Int)] 5)) (.slice (some ⟨w.heap.size,0,none⟩) 2 2) [a,b]:=
 ⟨some ⟨w.heap.size,0,none⟩,2,rfl,by simp[maxLen],fun i hi=>⟨w.heap.size,0,rfl,hI.none_of_ge (Nat.le_refl _),by
  match i,hi with
  | 0,_=>exact⟨cells_at (heap_alloc_new w _) 0,ha⟩
  | 1,_=>exact⟨cells_at (heap_alloc_new w _) 1,hb⟩⟩⟩
set_option maxRecDepth 100000 in
set_option maxHeartbeats 2000000 in
theorem awake15_any (R:Reg) (w:World) (hI:Inv R w):Calls Tryz.prog 6 #[] w (RetTrue R w):=by
 have hok3:MapOk [5,2,1,4,3,0] 0 0:=by unfold MapOk;simp
 have HT:=Lib.hid triS_one
 have HF:=Lib.hid (of15_any R _ (hI.alloc _) _ [5,2,1,4,3,0] 0 0 (FreeI.six14 hI 5 2 1 4 3 0) triS_one.perm hok3)
 have HE0:=Lib.hid ((Ev.refl hI).alloc (.cells #[.int .i64 5,.int .i64 2,.int .i64 1,.int .i64 4,.int .i64 3,.int .i64 0] 3))
 obtain⟨s1,hs1⟩:∃ s1,([5,2,1,4,3,0]:List Nat)=s1:=⟨_,rfl⟩
 have h6:s1.length=6:=by rw[←hs1];rfl
 have h3:(sizesL s1).length=3:=by rw[←hs1];decide +kernel
 rw[hs1] at HT HF
 have HN1:=Lib.hid (fun x (hx:x<6)=>three_none HT.out (r:=0) (by omega) h3 (x:=x) (by omega))
 have HL1:=Lib.hid (show (woodR s1 0).length=6 by rw[woodR_len HT.out (by omega),h6])
 have HW1:=Lib.hid (fun R' w' p (hI:Inv R' w') (hp:MapAt R' p s1 0 0)=>woodOf_tri R' w' hI p s1 0 hp HT.out (by omega))
 obtain⟨O1,hO1⟩:∃ O,woodR s1 0=O:=⟨_,rfl⟩
 unfold RetWood at HW1
 rw[hO1] at HN1 HL1 HW1
 unfold refV at HF
 clear hI hok3 h3 hO1 hs1 h6
 go_enter Tryz.func6,Tryz.ntmps6
 go_wp2_with fail
 refine HF.out.mono ?_
 rintro e w1 ⟨p,R1,rfl,he1,hp1⟩
 have HE1:=Lib.hid (HE0.out.trans he1)
 have HWa:=Lib.hid (HW1.out R1 w1 p he1.inv hp1)
 clear he1 hp1 HF HW1
 go_wp2_with fail
 refine HWa.out.mono ?_
 rintro e w2 ⟨b1,R2,D1,rfl,he2,hD1,hA1⟩
 as_aux_lemma=>
  have HE2:=Lib.hid (HE1.out.trans he2)
  have HA1:=Lib.hid hA1
  have hea:=HE2.out.alloc (.cells #[.int .u8 0,.int .u8 1] 5)
  have HTr:=Lib.hid (r14tri_any R2 _ hea.inv 1 (by omega) _ [0,1] (FreeB.two he2.inv 0 1 (by omega) (by omega)) 0 (by omega))
  have HA1:=Lib.hid (HA1.out.ev ((Ev.refl he2.inv).alloc (.cells #[.int .u8 0,.int .u8 1] 5)))
  have HEa:=Lib.hid hea
  clear he2 hD1 hA1 hea HE2 HE1 HWa
  go_wp2_with fail
  refine HTr.out.mono ?_
  rintro e w3 ⟨s,r,hT,hsl,hrt,a,c,rfl,he3,ho3⟩
  as_aux_lemma=>
   unfold refV
   have hrs:r<s.length:=by omega
   have hok:MapOk s (r:Int) 0:=by unfold MapOk;have:=hT.even;omega
   have HOf:=Lib.hid (of15_any R2 w3 he3.inv _ s (r:Int) 0 ho3.free hT.perm hok)
   unfold refV at HOf
   have HE3:=Lib.hid (HEa.out.trans he3)
   have HA1:=Lib.hid (HA1.out.ev he3)
   have HWb:=Lib.hid (fun R' w' p (hI:Inv R' w') (hp:MapAt R' p s (r:Int) 0)=>woodOf_tri R' w' hI p s r hp hT hrs)
   have h4:(sizesL s).length=4:=by have:=hT.edges6;omega
   have hoc:=out_count hT hrs
   rw[h4,show s.length=12 by omega] at hoc
   have hwl:=woodR_len hT hrs
   rw[show s.length=12 by omega] at hwl
   obtain⟨O,hO⟩:∃ O,woodR s r=O:=⟨_,rfl⟩
   unfold RetWood at HWb
   rw[hO] at HWb hoc hwl
   have HOc:=Lib.hid hoc
   have HWl:=Lib.hid hwl
   rw[hsl] at HOf ⊢
   clear hT hsl hrt he3 ho3 hrs hok h4 hoc hwl hO HTr HEa
   go_wp2_with fail
   refine HOf.out.mono ?_
   rintro e w4 ⟨p4,R4,rfl,he4,hp4⟩
   have HE4:=Lib.hid (HE3.out.trans he4)
   have HA1:=Lib.hid (HA1.out.ev he4)
   have HWb:=Lib.hid (HWb.out R4 w4 p4 he4.inv hp4)
   clear he4 hp4 HOf HE3
   go_wp2_with fail
   refine HWb.out.mono ?_
   rintro e w5 ⟨b5,R5,D5,rfl,he5,hD5,hA5⟩
   as_aux_lemma=>
    have HE5:=Lib.hid (HE4.out.trans he5)
    have HA1:=Lib.hid (HA1.out.ev he5)
    have HLi:=Lib.hid (wlist_any R5 w5 he5.inv b5 p4 s r O D5 hA5 (by rw[HWl.out];omega))
    clear he5 hD5 hA5 HWb HE4
    go_wp2_with fail
    refine HLi.out.mono ?_
    rintro e w6 ⟨v6,rfl,he6,ho6⟩
    obtain⟨a6,c6,rfl,-⟩:=ho6.ints.open
    rw[HWl.out] at ho6 ⊢
    have HE6:=Lib.hid (HE5.out.trans he6)
    have HA1:=Lib.hid (HA1.out.ev he6)
    have HO6:=Lib.hid ho6
    clear he6 ho6 HLi HE5
    go_wp2_with fail
    go_loopg [5,25] 12 (fun g v5 v25 wq=>∃ (i k:Nat),i≤12∧12-i≤g∧v5=.int .i64 (k:Int)∧v25=.int .i64 (i:Int)∧wq=w6∧k=tally (fun x=>0≤nth O x) i)
    case atStart=>exact⟨0,0,by omega,by omega,rfl,rfl,rfl,rfl⟩
    case round=>
     obtain⟨i,k,hi,hg,rfl,rfl,rfl,hk⟩:=hrel
     as_aux_lemma=>
      have HKt:=Lib.hid hk
      have hkl:k≤i:=by rw[hk];exact tally_le _ _
      clear hk
      by_cases hil:i<12
      ·obtain⟨g6,rfl,-,-,z,-⟩:=HO6.out.headAt HWl.out (i:=i) hil
       have hs:=tally_succ (fun x=>0≤nth O x) i
       obtain⟨x,hx⟩:∃ x,nth O i=x:=⟨_,rfl⟩
       rw[hx] at z
       have hs2:(0≤x→tally (fun x=>0≤nth O x) (i+1)=k+1)∧(¬ 0≤x→tally (fun x=>0≤nth O x) (i+1)=k):=by
        rw[←HKt.out] at hs
        exact⟨fun q=>by rw[hs,ind_yes (by rw[hx];exact q)],fun q=>by rw[hs,ind_no (by rw[hx];exact q)];rfl⟩
       have HS2:=Lib.hid hs2
       clear hs hs2 hx
       by_cases hx0:0≤x
       ·have hb:decide (0≤x)=true:=decide_eq_true hx0
        have HS3:=Lib.hid (HS2.out.1 hx0)
        clear hx0
        go_wp2_with fail
        go_roundg (12-(i+1))
        case measure=>omega
        case rel=>exact⟨i+1,k+1,by omega,by omega,by go_num,by go_num,rfl,HS3.out.symm⟩
       ·have hb:decide (0≤x)=false:=decide_eq_false hx0
        have HS3:=Lib.hid (HS2.out.2 hx0)
        clear hx0
        go_wp2_with fail
        go_roundg (12-(i+1))
        case measure=>omega
        case rel=>exact⟨i+1,k,by omega,by omega,rfl,by go_num,rfl,HS3.out.symm⟩
      ·obtain rfl:i=12:=by omega
       obtain rfl:k=3:=by have:=HKt.out;have:=HOc.out;omega
       have HL1a:=Lib.hid (fun R' w' (he:Ev R5 wr R' w')=>wlist_any R' w' he.inv b1 p s1 0 O1 D1 (HA1.out.ev he) (by rw[HL1.out];omega))
       have HLb:=Lib.hid (HL1a.out _ _ (Ev.refl HE6.out.inv))
       clear HKt hkl HO6
       go_wp2_with fail
       refine HLb.out.mono ?_
       rintro e w7 ⟨v7,rfl,he7,ho7⟩
       obtain⟨a7,c7,rfl,-⟩:=ho7.ints.open
       rw[HL1.out] at ho7 ⊢
       have HE7:=Lib.hid (HE6.out.trans he7)
       have HLc:=Lib.hid (HL1a.out _ _ he7)
       clear he7 ho7 HLb HE6
       go_wp2_with fail
       refine HLc.out.mono ?_
       rintro e w8 ⟨v8,rfl,he8,ho8⟩
       obtain⟨a8,c8,rfl,-⟩:=ho8.ints.open
       rw[HL1.out] at ho8 ⊢
       have HE8:=Lib.hid (HE7.out.trans he8)
       have hi8:=ho8.ints
       have HMx:=Lib.hid (smax_any w8 a8 6 c8 O1 hi8 (by omega) (by omega))
       clear he8 ho8 HLc HE7 hi8
       go_wp2_with fail
       refine HMx.out.mono ?_
       rintro e w9 ⟨rfl,m,rfl,⟨j,hj,hjm⟩,-⟩
       obtain rfl:m=-1:=by rw[←hjm];exact HN1.out j hj
       clear hjm
       go_wp2_with fail
       go_ret
       exact⟨by first|rfl|simp,R5,HE8.out⟩
end
end Go.Proofs.YtgphnkkdmlohlaaGreatDoor
