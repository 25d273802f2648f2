/- package dart: the methods that ask a map. -/
import Derived.Test.YtgphnkkdmlohlaaGreatDoorZWoodNo09
import Derived.Deep.RegionWith
namespace Go.Proofs.YtgphnkkdmlohlaaGreatDoor
section
open Go.RowKit
set_option linter.unusedVariables false
theorem Inv.mapCells {R:Reg} {w:World} (hI:Inv R w) {b:Nat} {s:List Nat} {root lone:Int} (h:R b=some (.inr (.inr (s,root,lone)))):
  IsPerm s∧MapOk s root lone∧IsPerm (phiL s)∧(phiL s).length=s.length∧b<w.heap.size∧∃ bp bq,PermAt R (.pointer (some ⟨bp,0,none⟩)) s∧PermAt R (.pointer (some ⟨bq,0,none⟩)) (phiL s) ∧
   w.cell? ⟨b,0,none⟩=some (.pointer (some ⟨bp,0,none⟩))∧w.cell? ⟨b,6,none⟩=some (.pointer (some ⟨bq,0,none⟩))∧w.cell? ⟨b,12,none⟩=some (.int .i64 root)∧w.cell? ⟨b,13,none⟩=some (.int .i64 lone):=by
 obtain⟨h1,h2,h2',bp,bq,T,d,e,v1,v2,u1,u2,ho,h3,h4,h5,h6⟩:=hI _ _ h
 obtain⟨h7,h8,_⟩:=hI _ _ h4
 refine⟨h1,h2',h7,by simp[phiL],lt_of_block ho,bp,bq,⟨bp,rfl,h3⟩,⟨bq,rfl,h4⟩,?_,?_,?_,?_⟩
 all_goals simp[World.cell?,ho]
theorem MapAt.ok {R:Reg} {w:World} (hI:Inv R w) {p:Value} {s:List Nat} {root lone:Int} (h:MapAt R p s root lone):IsPerm s∧MapOk s root lone:=by
 obtain⟨b,rfl,hb⟩:=h
 obtain⟨h1,h2,_⟩:=hI.mapCells hb
 exact⟨h1,h2⟩
theorem sizesL_le {s:List Nat} (hs:IsPerm s):(sizesL s).length≤s.length:=by
 rw[←sizesGo_all,sizesGo_length hs _ (Nat.le_refl _)]
 exact namesGo_count s _
section
variable (R : Reg) (w : World) (hI : Inv R w) (p : Value) (s : List Nat) (root lone : Int) (hp : MapAt R p s root lone)
include hI hp
theorem darts_any:Calls Tryz.prog 36 #[p] w fun e w'=>e=.returned (.int .i64 (s.length:Int))∧w=w':=by
 obtain⟨b,rfl,hb⟩:=hp
 obtain⟨_,_,_,_,_,bp,bq,h1,h2,c0,c6,_,_⟩:=hI.mapCells hb
 have HI:=Lib.hid hI
 have H1:=Lib.hid h1
 clear hI hb h1 h2
 go_enter Tryz.func36,Tryz.ntmps36
 go_wp2_with (go_at_call 65;refine (len_any R _ HI.out _ s H1.out).mono ?_;rintro e w' ⟨rfl,rfl⟩)
 go_ret
 exact⟨rfl,rfl⟩
theorem edges_any:Calls Tryz.prog 131 #[p] w fun e w'=>e=.returned (.int .i64 ((s.length / 2:Nat):Int))∧w=w':=by
 have HD:=Lib.hid (darts_any R w hI p s root lone hp)
 obtain⟨b,rfl,hb⟩:=hp
 obtain⟨_,hm,_⟩:=hI.mapCells hb
 have hn:=hm.2.1
 clear hI hb hm
 go_enter Tryz.func131,Tryz.ntmps131
 go_wp2_with (go_at_call 36;refine HD.out.mono ?_;rintro e w' ⟨rfl,rfl⟩)
 go_ret
 exact⟨ret_int (by omega),rfl⟩
theorem root_any:Calls Tryz.prog 79 #[p] w fun e w'=>e=.returned (.int .i64 root)∧w=w':=by
 obtain⟨b,rfl,hb⟩:=hp
 obtain⟨_,_,_,_,_,bp,bq,h1,h2,c0,c6,c12,c13⟩:=hI.mapCells hb
 clear hI hb h1 h2
 go_enter Tryz.func79,Tryz.ntmps79
 go_wp2
 go_ret
 exact⟨rfl,rfl⟩
theorem lone_any:Calls Tryz.prog 130 #[p] w fun e w'=>e=.returned (.int .i64 lone)∧w=w':=by
 obtain⟨b,rfl,hb⟩:=hp
 obtain⟨_,_,_,_,_,bp,bq,h1,h2,c0,c6,c12,c13⟩:=hI.mapCells hb
 clear hI hb h1 h2
 go_enter Tryz.func130,Tryz.ntmps130
 go_wp2
 go_ret
 exact⟨rfl,rfl⟩
theorem sigma_any (i:Int):Calls Tryz.prog 46 #[p,.int .i64 i] w fun e w'=>e=.returned (.int .i64 (atI s i))∧w=w':=by
 obtain⟨b,rfl,hb⟩:=hp
 obtain⟨_,_,_,_,_,bp,bq,h1,h2,c0,c6,c12,c13⟩:=hI.mapCells hb
 have HL:=Lib.hid (at_any R w hI _ s h1 i)
 clear hI hb h1 h2
 go_enter Tryz.func46,Tryz.ntmps46
 go_wp2_with (go_at_call 82;refine HL.out.mono ?_;rintro e w' ⟨rfl,rfl⟩)
 go_ret
 exact⟨rfl,rfl⟩
theorem phi_any (i:Int):Calls Tryz.prog 108 #[p,.int .i64 i] w fun e w'=>e=.returned (.int .i64 (atI (phiL s) i))∧w=w':=by
 obtain⟨b,rfl,hb⟩:=hp
 obtain⟨_,_,_,_,_,bp,bq,h1,h2,c0,c6,c12,c13⟩:=hI.mapCells hb
 have HL:=Lib.hid (at_any R w hI _ (phiL s) h2 i)
 clear hI hb h1 h2
 go_enter Tryz.func108,Tryz.ntmps108
 go_wp2_with (go_at_call 82;refine HL.out.mono ?_;rintro e w' ⟨rfl,rfl⟩)
 go_ret
 exact⟨rfl,rfl⟩
theorem mback_any (i:Int):Calls Tryz.prog 81 #[p,.int .i64 i] w (RetV R w (.int .i64 (backI s i))):=by
 obtain⟨b,rfl,hb⟩:=hp
 obtain⟨_,_,_,_,_,bp,bq,h1,h2,c0,c6,c12,c13⟩:=hI.mapCells hb
 have HL:=Lib.hid (back_any R w hI _ s h1 i)
 clear hI hb h1 h2
 go_enter Tryz.func81,Tryz.ntmps81
 go_wp2_with fail
 refine HL.out.mono ?_
 rintro e w' ⟨rfl,h⟩
 have H:=Lib.hid h
 clear h
 go_wp2_with fail
 go_ret
 exact⟨rfl,H.out⟩
theorem around_any (i:Int):Calls Tryz.prog 52 #[p,.int .i64 i] w (RetOwn R w (orbI s i)):=by
 obtain⟨b,rfl,hb⟩:=hp
 obtain⟨_,_,_,_,_,bp,bq,h1,h2,c0,c6,c12,c13⟩:=hI.mapCells hb
 have HL:=Lib.hid (orbit_any R w hI _ s h1 i)
 clear hI hb h1 h2
 go_enter Tryz.func52,Tryz.ntmps52
 go_wp2_with fail
 refine HL.out.mono ?_
 rintro e w' ⟨v,rfl,h⟩
 have H:=Lib.hid h
 clear h
 go_wp2_with fail
 go_ret
 exact⟨v,rfl,H.out⟩
theorem border_any (i:Int):Calls Tryz.prog 78 #[p,.int .i64 i] w (RetOwn R w (orbI (phiL s) i)):=by
 obtain⟨b,rfl,hb⟩:=hp
 obtain⟨_,_,_,_,_,bp,bq,h1,h2,c0,c6,c12,c13⟩:=hI.mapCells hb
 have HL:=Lib.hid (orbit_any R w hI _ (phiL s) h2 i)
 clear hI hb h1 h2
 go_enter Tryz.func78,Tryz.ntmps78
 go_wp2_with fail
 refine HL.out.mono ?_
 rintro e w' ⟨v,rfl,h⟩
 have H:=Lib.hid h
 clear h
 go_wp2_with fail
 go_ret
 exact⟨v,rfl,H.out⟩
theorem vertex_any (i:Int):Calls Tryz.prog 54 #[p,.int .i64 i] w (RetV R w (.int .i64 (nameI s i))):=by
 obtain⟨b,rfl,hb⟩:=hp
 have HL:=Lib.hid (name_any R w hI b s root lone hb 0 s (Or.inl ⟨rfl,rfl⟩) i)
 clear hI hb
 go_enter Tryz.func54,Tryz.ntmps54
 go_wp2_with fail
 refine HL.out.mono ?_
 rintro e w' ⟨rfl,h⟩
 have H:=Lib.hid h
 clear h
 go_wp2_with fail
 go_ret
 exact⟨rfl,H.out⟩
theorem face_any (i:Int):Calls Tryz.prog 129 #[p,.int .i64 i] w (RetV R w (.int .i64 (nameI (phiL s) i))):=by
 obtain⟨b,rfl,hb⟩:=hp
 have HL:=Lib.hid (name_any R w hI b s root lone hb 6 (phiL s) (Or.inr ⟨rfl,rfl⟩) i)
 clear hI hb
 go_enter Tryz.func129,Tryz.ntmps129
 go_wp2_with fail
 refine HL.out.mono ?_
 rintro e w' ⟨rfl,h⟩
 have H:=Lib.hid h
 clear h
 go_wp2_with fail
 go_ret
 exact⟨rfl,H.out⟩
end
end
section
open Go.RowKit
set_option linter.unusedVariables false
theorem xor_i64 (a b:Nat) (ha:a<4611686018427387904) (hb:b<4611686018427387904):bits .xor .i64 (a:Int) (b:Int)=((a ^^^ b:Nat):Int):=by
 have hx:a ^^^ b<2 ^ 62:=Nat.xor_lt_two_pow (by omega) (by omega)
 have h1:(BitVec.ofInt 64 (a:Int)).toNat=a:=by
  rw[BitVec.ofInt_natCast,BitVec.toNat_ofNat];exact Nat.mod_eq_of_lt (by omega)
 have h2:(BitVec.ofInt 64 (b:Int)).toNat=b:=by
  rw[BitVec.ofInt_natCast,BitVec.toNat_ofNat];exact Nat.mod_eq_of_lt (by omega)
 show IntKind.i64.wrap ((BitVec.ofInt 64 (a:Int) ^^^ BitVec.ofInt 64 (b:Int)).toNat:Int)=_
 rw[BitVec.toNat_xor,h1,h2]
 exact IntWalk.i64_in _ (by omega)
theorem xor_one_i64 {a:Nat} (ha:a<4194304):bits .xor .i64 (a:Int) 1=((a ^^^ 1:Nat):Int):=xor_i64 a 1 (by omega) (by omega)
def mateI (n:Nat) (i:Int):Int:=if 0≤i∧i<n then ((i.toNat ^^^ 1:Nat):Int) else -1
theorem mateI_out {n:Nat} {i:Int} (h:i<0∨(n:Int)≤i):mateI n i=-1:=by
 unfold mateI;rw[if_neg (by omega)]
theorem mateI_in {n i:Nat} (h:i<n):mateI n (i:Int)=((i ^^^ 1:Nat):Int):=by
 unfold mateI;rw[if_pos (by omega)];simp
theorem mate_any (R:Reg) (w:World) (hI:Inv R w) (p:Value) (s:List Nat) (root lone:Int) (hp:MapAt R p s root lone) (i:Int):
  Calls Tryz.prog 47 #[p,.int .i64 i] w fun e w'=>e=.returned (.int .i64 (mateI s.length i))∧w=w':=by
 have HL:=Lib.hid (darts_any R w hI p s root lone hp)
 obtain⟨b,rfl,hb⟩:=hp
 obtain⟨_,hm,_⟩:=hI.mapCells hb
 have hn:=hm.2.1
 clear hI hb hm
 by_cases h0:i<0
 ·have HA:=Lib.hid (mateI_out (n:=s.length) (Or.inl h0))
  go_enter Tryz.func47,Tryz.ntmps47
  go_wp2_with fail
  go_ret
  exact⟨ret_int HA.out.symm,rfl⟩
 ·by_cases h1:(s.length:Int)≤i
  ·have HA:=Lib.hid (mateI_out (n:=s.length) (Or.inr h1))
   go_enter Tryz.func47,Tryz.ntmps47
   go_wp2_with (go_at_call 36;refine HL.out.mono ?_;rintro e w' ⟨rfl,rfl⟩)
   go_ret
   exact⟨ret_int HA.out.symm,rfl⟩
  ·obtain⟨k,rfl⟩:=Int.eq_ofNat_of_zero_le (show 0≤i by omega)
   have hk:k<s.length:=by omega
   have HA:=Lib.hid (mateI_in hk)
   have h2:decide (s.length≤k)=false:=by simp;omega
   have h3:¬ ((k:Int)<0):=by omega
   clear h0 h1
   go_enter Tryz.func47,Tryz.ntmps47
   go_wp2_with (go_at_call 36;refine HL.out.mono ?_;rintro e w' ⟨rfl,rfl⟩)
   go_ret
   exact⟨ret_int (by rw[HA.out,xor_one_i64 (by omega)]),rfl⟩
set_option maxRecDepth 100000 in
set_option maxHeartbeats 1000000 in
theorem vertices_any (R:Reg) (w:World) (hI:Inv R w) (p:Value) (s:List Nat) (root lone:Int) (hp:MapAt R p s root lone):
  Calls Tryz.prog 73 #[p] w (RetV R w (.int .i64 ((sizesL s).length+lone))):=by
 obtain⟨b,rfl,hb⟩:=hp
 have HC:=Lib.hid (fun w' (h:Inv R w')=>count_any R w' h b s root lone hb 0 s (Or.inl ⟨rfl,rfl⟩))
 obtain⟨hs,hm,_,_,hblt,bp,bq,h1,h2,c0,c6,c12,c13⟩:=hI.mapCells hb
 have hsz:=sizesL_le hs
 obtain⟨_,hm1,hm2,hm3,_⟩:=hm
 obtain⟨k,hk⟩:∃ k,(sizesL s).length=k:=⟨_,rfl⟩
 have HI:=Lib.hid hI
 have HB:=Lib.hid hb
 have hI':=Lib.hid hI.drew
 have HK:=Lib.hid hk
 rw[hk] at hsz ⊢
 clear hI hb h1 h2 hs hk
 have hcells:∀ R' (w':World),Ev R w.drew R' w'→w'.cell? ⟨b,13,none⟩=some (.int .i64 lone):=fun R' w' he=>by
  obtain⟨_,_,_,_,_,_,_,_,_,_,_,_,h⟩:=he.inv.mapCells (he.reg _ _ HB.out)
  exact h
 have HCL:=Lib.hid hcells
 clear hcells
 go_enter Tryz.func73,Tryz.ntmps73
 go_wp2_with fail
 have hw:IntKind.i64.wrap ((k:Int)+lone)=(k:Int)+lone:=IntWalk.i64_in _ (by omega)
 go_region_with (go_at_call 94;refine (HC.out _ hI'.out).mono ?_;rintro e w' ⟨rfl,R',_,_,_,_,he,_,_,_,_⟩;have c13':=HCL.out R' w' he;have HE:=Lib.hid he;clear he;rw[HK.out])
 all_goals go_wp2_with fail
 all_goals go_ret
 all_goals exact⟨rfl,R',((Ev.refl HI.out).drew).trans HE.out⟩
end
section
open Go.RowKit
set_option linter.unusedVariables false
open Classical in
noncomputable def newErr (xs:List Int) (root lone:Int):Int:=
 if ¬ PermI xs∨xs.length % 2=1 then 4 else
 if (xs.length=0∧root≠-1)∨(0<xs.length∧(root<0∨(xs.length:Int)≤root))∨lone<0 then 5 else
 if 65536<xs.length / 2∨65536<lone then 6 else 0
def NewPost (R:Reg) (w:World) (xs:List Int) (root lone:Int) (e:Ending) (w':World):Prop:=
 (newErr xs root lone≠0∧e=.returned (.tuple #[.pointer none,.int .i64 (newErr xs root lone)])∧∃ R',Ev R w R' w') ∨
 (newErr xs root lone=0∧∃ S p R',IsPerm S∧xs=toI S∧MapOk S root lone∧e=.returned (.tuple #[p,.int .i64 0])∧Ev R w R' w'∧MapAt R' p S root lone)
theorem NewPost.no {R R':Reg} {w w':World} {xs:List Int} {root lone c:Int} (he:Ev R w R' w') (h:newErr xs root lone=c) (hc:c≠0):
  NewPost R w xs root lone (.returned (.tuple #[.pointer none,.int .i64 c])) w':=Or.inl ⟨by rw[h];exact hc,by rw[h],R',he⟩
theorem Ev.newMap {R R1:Reg} {w w1:World} {S:List Nat} {root lone:Int} {bp bq T:Nat} (he:Ev R w R1 w1) (hp:R1 bp=some (.inr (.inl S))) (hq:R1 bq=some (.inr (.inl (phiL S)))) (hS:IsPerm S) (hm:MapOk S root lone):
  ∃ R2,Ev R w R2 (w1.alloc (.cells #[.pointer (some ⟨bp,0,none⟩),.int .u32 0,.int .i32 0,.int .u32 0,.slice none 0 0,.slice none 0 0,.pointer (some ⟨bq,0,none⟩),.int .u32 0,.int .i32 0,.int .u32 0,.slice none 0 0,.slice none 0 0,.int .i64 root,.int .i64 lone] T)) ∧
   MapAt R2 (.pointer (some ⟨w1.heap.size,0,none⟩)) S root lone:=by
 have hnone:R1 w1.heap.size=none:=he.inv.none_of_ge (Nat.le_refl _)
 refine⟨R1.put w1.heap.size (.inr (.inr (S,root,lone))),(he.alloc _).put _ he.size hnone ⟨hS,by have:=hm.2.1;omega,hm,bp,bq,T,0,0,nilS,nilS,nilS,nilS,heap_alloc_new w1 _,hp,hq,Or.inl ⟨rfl,rfl,rfl⟩,Or.inl ⟨rfl,rfl,rfl⟩⟩,w1.heap.size,rfl,Reg.put_same _ _ _⟩
set_option maxRecDepth 100000 in
set_option maxHeartbeats 2000000 in
theorem new_any (R:Reg) (w:World) (hI:Inv R w) (v:Value) (xs:List Int) (hv:FreeI R w v xs) (hn:xs.length≤4194304) (root lone:Int):
  Calls Tryz.prog 40 #[v,.int .i64 root,.int .i64 lone] w (NewPost R w xs root lone):=by
 have HO:=Lib.hid (of_any R w hI v xs hv.1 hn)
 obtain⟨a,cap,rfl,_⟩:=hv.1.open
 obtain⟨n,hl⟩:∃ n,xs.length=n:=⟨_,rfl⟩
 have HL:=Lib.hid hl
 rw[hl] at HO hv hn ⊢
 have HV:=Lib.hid hv
 obtain⟨i0,hi,hz0,hz1,hz2'⟩:=info_parts int_info
 clear hI hv hl
 go_enter Tryz.func40,Tryz.ntmps40
 go_wp2_with fail
 refine HO.out.mono ?_
 rintro e w1 (⟨hno,rfl,he1⟩|⟨S,p,R1,hS,rfl,rfl,he1,hp1⟩)
 ·have HE:=Lib.hid he1
  have HN:=Lib.hid hno
  clear he1 hno
  go_wp2_with fail
  go_ret2
  exact NewPost.no HE.out (by unfold newErr;rw[if_pos (Or.inl HN.out)]) (by decide)
 ·have HE:=Lib.hid he1
  have HP:=Lib.hid hp1
  have HS:=Lib.hid hS
  have hperm:PermI (toI S):=⟨S,hS,rfl⟩
  have HQ:=Lib.hid hperm
  have HV1:=Lib.hid (HV.out.ev HE.out)
  clear he1 hp1 hS hperm
  by_cases hodd:n % 2=1
  ·have ho:((n:Int) % 2 == 1)=true:=by rw[beq_iff_eq];omega
   go_wp2_with fail
   go_ret2
   exact NewPost.no HE.out (by unfold newErr;rw[if_pos (Or.inr (by rw[HL.out];exact hodd))]) (by decide)
  ·have ho:((n:Int) % 2 == 1)=false:=by rw[beq_eq_false_iff_ne];omega
   have hen:n % 2=0:=by omega
   have h4:newErr (toI S) root lone=if (n=0∧root≠-1)∨(0<n∧(root<0∨(n:Int)≤root))∨lone<0 then 5 else if 65536<n / 2∨65536<lone then 6 else 0:=by
    unfold newErr
    rw[if_neg (fun h=>h.elim (fun h=>h HQ.out) (fun h=>by rw[HL.out] at h;omega)),HL.out]
   have H4:=Lib.hid h4
   clear h4 hodd
   by_cases hbad:(n=0∧root≠-1)∨(0<n∧(root<0∨(n:Int)≤root))∨lone<0
   ·have H5:=Lib.hid (show newErr (toI S) root lone=5 by rw[H4.out,if_pos hbad])
    have HB:=Lib.hid hbad
    clear hbad
    by_cases hn0:n=0
    ·subst hn0
     by_cases hr:root=-1
     ·have hl:lone<0:=by rcases HB.out with h|h|h <;> omega
      have hr':(root != -1)=false:=by rw[hr];rfl
      have HR:=Lib.hid hr
      clear hr
      go_wp2_with fail
      go_ret2
      exact NewPost.no HE.out H5.out (by decide)
     ·have hr':(root != -1)=true:=by rw[bne_iff_ne];exact hr
      clear hr
      go_wp2_with fail
      go_ret2
      exact NewPost.no HE.out H5.out (by decide)
    ·have hn1:0<n:=by omega
     have hn2:((n:Int) == 0)=false:=by rw[beq_eq_false_iff_ne];omega
     clear hn0
     by_cases hr:root<0
     ·go_wp2_with fail
      go_ret2
      exact NewPost.no HE.out H5.out (by decide)
     ·by_cases hr2:(n:Int)≤root
      ·go_wp2_with fail
       go_ret2
       exact NewPost.no HE.out H5.out (by decide)
      ·have hl:lone<0:=by rcases HB.out with h|h|h <;> omega
       go_wp2_with fail
       go_ret2
       exact NewPost.no HE.out H5.out (by decide)
   ·have hl0:0≤lone:=by omega
    have hroot:(n=0∧root=-1)∨(0<n∧0≤root∧root<n):=by omega
    have H6:=Lib.hid (show newErr (toI S) root lone=if 65536<n / 2∨65536<lone then 6 else 0 by rw[H4.out,if_neg hbad])
    have HRT:=Lib.hid hroot
    have hg:∃ z1 z2 z3 z4:Bool,((n:Int) == 0)=z1∧(root != -1)=z2∧decide (0<n)=z3∧decide ((n:Int)≤root)=z4∧((z1=true∧z2=false∧z3=false)∨(z1=false∧z3=true∧z4=false∧0≤root)):=by
     refine⟨_,_,_,_,rfl,rfl,rfl,rfl,?_⟩
     rcases hroot with ⟨h1,h2⟩|⟨h1,h2,h3⟩
     ·left;subst h1;subst h2;exact⟨rfl,rfl,rfl⟩
     ·right;refine⟨by rw[beq_eq_false_iff_ne];omega,by simp;omega,by simp;omega,h2⟩
    have hl1:¬ lone<0:=by omega
    obtain⟨z1,z2,z3,z4,g1,g2,g3,g4,gz⟩:=hg
    clear hbad hroot
    by_cases hlarge:65536<n / 2∨65536<lone
    ·have H7:=Lib.hid (show newErr (toI S) root lone=6 by rw[H6.out,if_pos hlarge])
     by_cases hq:65536<n / 2
     ·have hq':65536<(n:Int) / 2:=by omega
      clear hlarge
      rcases gz with ⟨rfl,rfl,rfl⟩|⟨rfl,rfl,rfl,gr⟩
      all_goals go_wp2_with fail
      all_goals go_ret2
      all_goals exact NewPost.no HE.out H7.out (by decide)
     ·have hq':¬ 65536<(n:Int) / 2:=by omega
      have hl2:65536<lone:=by omega
      clear hlarge hq
      rcases gz with ⟨rfl,rfl,rfl⟩|⟨rfl,rfl,rfl,gr⟩
      all_goals go_wp2_with fail
      all_goals go_ret2
      all_goals exact NewPost.no HE.out H7.out (by decide)
    ·have H7:=Lib.hid (show newErr (toI S) root lone=0 by rw[H6.out,if_neg hlarge])
     have hq':¬ 65536<(n:Int) / 2:=by omega
     have hl2:¬ 65536<lone:=by omega
     have hnn:n≤131073:=by omega
     clear hlarge
     rcases gz with ⟨rfl,rfl,rfl⟩|⟨rfl,rfl,rfl,gr⟩
     ·go_wp2_with (refine wpList_make_full _ rfl _ _ 25 rfl w1.heap.size 3 i0 (.int .i64 0) 1 Tryz.underlying25 hi hz0 hz1 .i64 .i64 (n:Int) (n:Int) n rfl rfl rfl rfl ?q1 ?q2 (Nat.le_refl _) ?_)
      case q1=>rw[hz2'];omega
      case q2=>unfold maxLen;omega
      intro w2 ho2 hg2
      have hcur:w2.heap[w1.heap.size]?=some (.cells ((toI (phiGo S 0)).map (Value.int .i64)).toArray 3 (0,0)):=by
       obtain⟨k1,k2⟩:=ho2
       rcases k2 with ⟨k2,_⟩|⟨g,cap',cur,hv,hg,hh,hn',hm,hs,ht⟩
       ·cases k2
       ·cases hv
        rw[hh]
        have:cur.toList=List.replicate n (.int .i64 0):=by
         have hs':cur.toList.length=n:=by simpa using hs
         rw[List.take_of_length_le (by omega)] at ht
         rw[ht]
         simpa using toList_madeCells_one (.int .i64 0) n
        have h2:cur=(List.replicate n (Value.int .i64 0)).toArray:=by rw[←this]
        have hSn:S.length=n:=by have:=HL.out;rw[toI_length] at this;exact this
        rw[h2,phiGo_zero]
        simp[toI,hSn]
      have hbt:Below w1.heap.size w1 w2:=(Below.refl _ w1).grown hg2 (Nat.le_refl _) (by simp)
      have HCUR:=Lib.hid hcur
      have HBT:=Lib.hid hbt
      clear ho2 hg2 hcur hbt
      go_wp2_with fail
      go_loopg [66] n (fun g v66 wr=>∃ k:Nat,k≤n∧n-k≤g∧v66=.int .i64 (k:Int)∧wr.heap[w1.heap.size]?=some (.cells ((toI (phiGo S k)).map (Value.int .i64)).toArray 3 (0,0))∧Below w1.heap.size w1 wr)
      case atStart=>exact⟨0,Nat.zero_le _,by omega,rfl,HCUR.out,HBT.out⟩
      case round=>
       obtain⟨k,hk,hg,rfl,hcu,hbe⟩:=hrel
       have HCU:=Lib.hid hcu
       have HBE:=Lib.hid hbe
       clear hcu hbe
       have hSn:S.length=n:=by have:=HL.out;rw[toI_length] at this;exact this
       have HSN:=Lib.hid hSn
       clear hSn
       by_cases hkn:k<n
       ·have hx1:=xor_one_lt hen hkn
        obtain⟨bx,ox,e1,hc⟩:=HV1.out.1.cell (i:=k ^^^ 1) (by rw[HL.out];exact hx1)
        rw[toI_nth] at hc
        have hc':=(HBE.out.cell (p:=⟨bx,ox+(k ^^^ 1),none⟩) (lt_of_cell hc)).trans hc
        have hxor:bits .xor .i64 (k:Int) 1=((k ^^^ 1:Nat):Int):=xor_one_i64 (by omega)
        obtain⟨j,hj⟩:∃ j,k ^^^ 1=j:=⟨_,rfl⟩
        rw[hj] at hc' hxor hx1
        have HJ:=Lib.hid hj
        subst e1
        have cx:wr.cell? ⟨w1.heap.size,k,none⟩=some (.int .i64 (nth (toI (phiGo S k)) k)):=by
         unfold World.cell?
         rw[HCU.out]
         have:k<(toI (phiGo S k)).length:=by rw[toI_length,phiGo_length,HSN.out];exact hkn
         simp[nth,this]
        have zx:wr.frozen? ⟨w1.heap.size,k,none⟩=false:=by simp[World.frozen?,HCU.out]
        clear hj hc
        go_wp2_with fail
        have hc3:(wr.setCell ⟨w1.heap.size,k,none⟩ (.int .i64 ((at' S j:Nat):Int))).heap[w1.heap.size]?=some (.cells ((toI (phiGo S (k+1))).map (Value.int .i64)).toArray 3 (0,0)):=by
         rw[heap_setCell_same _ _ _ _ _ _ HCU.out,phiGo_succ (by rw[HSN.out];exact hkn),toI_set,HJ.out]
         simp
        have HC3:=Lib.hid hc3
        clear hc3 cx zx hc' hxor
        go_roundg (n-(k+1))
        case measure=>omega
        case rel=>exact⟨k+1,by omega,by omega,by go_num,HC3.out,HBE.out.setCell (Nat.le_refl _) _⟩
       ·obtain rfl:k=n:=by omega
        go_wp2_with fail
        have he2:=Ev.of_below HE.out.inv HBE.out
        have hphi:Ints wr (.slice (some ⟨w1.heap.size,0,none⟩) k k) (toI (phiL S)):=by
         have hh:=HCU.out
         rw[←HSN.out,phiGo_all] at hh
         have hl:(toI (phiL S)).length=k:=by rw[toI_length,phiL_length,HSN.out]
         refine⟨_,k,by rw[hl],by rw[hl];exact Nat.le_refl _,by unfold maxLen;omega,fun i hi=>⟨w1.heap.size,0,rfl,?_⟩⟩
         unfold World.cell?
         rw[hh]
         simp[nth,hi]
        refine (of_any R1 wr he2.inv _ (toI (phiL S)) hphi (by rw[toI_length,phiL_length,HSN.out];omega)).mono ?_
        have hpp:IsPerm (phiL S):=phiL_perm HS.out (by rw[HSN.out];exact hen)
        rintro e w3 (⟨hno,rfl,_⟩|⟨S',q,R3,hS',he',rfl,he3,hq3⟩)
        ·exact absurd ⟨_,hpp,rfl⟩ hno
        ·have:=toI_inj he'
         subst this
         obtain⟨b1,rfl,hb1⟩:=HP.out
         obtain⟨b2,rfl,hb2⟩:=hq3
         have he4:=HE.out.trans (he2.trans he3)
         have hb1':=he3.reg _ _ (he2.reg _ _ hb1)
         have hmok:MapOk S root lone:=⟨by rw[HSN.out];exact hen,by rw[HSN.out];exact hnn,hl0,by omega,by rw[HSN.out];have:=HRT.out;omega⟩
         obtain⟨R5,he5,hm5⟩:=he4.newMap (T:=89) hb1' hb2 HS.out hmok
         have HE5:=Lib.hid he5
         have HM5:=Lib.hid hm5
         have HMK:=Lib.hid hmok
         clear he2 hphi hpp he4 hb1' hmok he5 hm5 he3 hb1 hb2 he' hS'
         go_wp2_with fail
         go_ret2
         exact Or.inr ⟨H7.out,S,_,R5,HS.out,rfl,HMK.out,rfl,HE5.out,HM5.out⟩
     ·go_wp2_with (refine wpList_make_full _ rfl _ _ 25 rfl w1.heap.size 3 i0 (.int .i64 0) 1 Tryz.underlying25 hi hz0 hz1 .i64 .i64 (n:Int) (n:Int) n rfl rfl rfl rfl ?q1 ?q2 (Nat.le_refl _) ?_)
      case q1=>rw[hz2'];omega
      case q2=>unfold maxLen;omega
      intro w2 ho2 hg2
      have hcur:w2.heap[w1.heap.size]?=some (.cells ((toI (phiGo S 0)).map (Value.int .i64)).toArray 3 (0,0)):=by
       obtain⟨k1,k2⟩:=ho2
       rcases k2 with ⟨k2,_⟩|⟨g,cap',cur,hv,hg,hh,hn',hm,hs,ht⟩
       ·cases k2
       ·cases hv
        rw[hh]
        have:cur.toList=List.replicate n (.int .i64 0):=by
         have hs':cur.toList.length=n:=by simpa using hs
         rw[List.take_of_length_le (by omega)] at ht
         rw[ht]
         simpa using toList_madeCells_one (.int .i64 0) n
        have h2:cur=(List.replicate n (Value.int .i64 0)).toArray:=by rw[←this]
        have hSn:S.length=n:=by have:=HL.out;rw[toI_length] at this;exact this
        rw[h2,phiGo_zero]
        simp[toI,hSn]
      have hbt:Below w1.heap.size w1 w2:=(Below.refl _ w1).grown hg2 (Nat.le_refl _) (by simp)
      have HCUR:=Lib.hid hcur
      have HBT:=Lib.hid hbt
      clear ho2 hg2 hcur hbt
      go_wp2_with fail
      go_loopg [66] n (fun g v66 wr=>∃ k:Nat,k≤n∧n-k≤g∧v66=.int .i64 (k:Int)∧wr.heap[w1.heap.size]?=some (.cells ((toI (phiGo S k)).map (Value.int .i64)).toArray 3 (0,0))∧Below w1.heap.size w1 wr)
      case atStart=>exact⟨0,Nat.zero_le _,by omega,rfl,HCUR.out,HBT.out⟩
      case round=>
       obtain⟨k,hk,hg,rfl,hcu,hbe⟩:=hrel
       have HCU:=Lib.hid hcu
       have HBE:=Lib.hid hbe
       clear hcu hbe
       have hSn:S.length=n:=by have:=HL.out;rw[toI_length] at this;exact this
       have HSN:=Lib.hid hSn
       clear hSn
       by_cases hkn:k<n
       ·have hx1:=xor_one_lt hen hkn
        obtain⟨bx,ox,e1,hc⟩:=HV1.out.1.cell (i:=k ^^^ 1) (by rw[HL.out];exact hx1)
        rw[toI_nth] at hc
        have hc':=(HBE.out.cell (p:=⟨bx,ox+(k ^^^ 1),none⟩) (lt_of_cell hc)).trans hc
        have hxor:bits .xor .i64 (k:Int) 1=((k ^^^ 1:Nat):Int):=xor_one_i64 (by omega)
        obtain⟨j,hj⟩:∃ j,k ^^^ 1=j:=⟨_,rfl⟩
        rw[hj] at hc' hxor hx1
        have HJ:=Lib.hid hj
        subst e1
        have cx:wr.cell? ⟨w1.heap.size,k,none⟩=some (.int .i64 (nth (toI (phiGo S k)) k)):=by
         unfold World.cell?
         rw[HCU.out]
         have:k<(toI (phiGo S k)).length:=by rw[toI_length,phiGo_length,HSN.out];exact hkn
         simp[nth,this]
        have zx:wr.frozen? ⟨w1.heap.size,k,none⟩=false:=by simp[World.frozen?,HCU.out]
        clear hj hc
        go_wp2_with fail
        have hc3:(wr.setCell ⟨w1.heap.size,k,none⟩ (.int .i64 ((at' S j:Nat):Int))).heap[w1.heap.size]?=some (.cells ((toI (phiGo S (k+1))).map (Value.int .i64)).toArray 3 (0,0)):=by
         rw[heap_setCell_same _ _ _ _ _ _ HCU.out,phiGo_succ (by rw[HSN.out];exact hkn),toI_set,HJ.out]
         simp
        have HC3:=Lib.hid hc3
        clear hc3 cx zx hc' hxor
        go_roundg (n-(k+1))
        case measure=>omega
        case rel=>exact⟨k+1,by omega,by omega,by go_num,HC3.out,HBE.out.setCell (Nat.le_refl _) _⟩
       ·obtain rfl:k=n:=by omega
        go_wp2_with fail
        have he2:=Ev.of_below HE.out.inv HBE.out
        have hphi:Ints wr (.slice (some ⟨w1.heap.size,0,none⟩) k k) (toI (phiL S)):=by
         have hh:=HCU.out
         rw[←HSN.out,phiGo_all] at hh
         have hl:(toI (phiL S)).length=k:=by rw[toI_length,phiL_length,HSN.out]
         refine⟨_,k,by rw[hl],by rw[hl];exact Nat.le_refl _,by unfold maxLen;omega,fun i hi=>⟨w1.heap.size,0,rfl,?_⟩⟩
         unfold World.cell?
         rw[hh]
         simp[nth,hi]
        refine (of_any R1 wr he2.inv _ (toI (phiL S)) hphi (by rw[toI_length,phiL_length,HSN.out];omega)).mono ?_
        have hpp:IsPerm (phiL S):=phiL_perm HS.out (by rw[HSN.out];exact hen)
        rintro e w3 (⟨hno,rfl,_⟩|⟨S',q,R3,hS',he',rfl,he3,hq3⟩)
        ·exact absurd ⟨_,hpp,rfl⟩ hno
        ·have:=toI_inj he'
         subst this
         obtain⟨b1,rfl,hb1⟩:=HP.out
         obtain⟨b2,rfl,hb2⟩:=hq3
         have he4:=HE.out.trans (he2.trans he3)
         have hb1':=he3.reg _ _ (he2.reg _ _ hb1)
         have hmok:MapOk S root lone:=⟨by rw[HSN.out];exact hen,by rw[HSN.out];exact hnn,hl0,by omega,by rw[HSN.out];have:=HRT.out;omega⟩
         obtain⟨R5,he5,hm5⟩:=he4.newMap (T:=89) hb1' hb2 HS.out hmok
         have HE5:=Lib.hid he5
         have HM5:=Lib.hid hm5
         have HMK:=Lib.hid hmok
         clear he2 hphi hpp he4 hb1' hmok he5 hm5 he3 hb1 hb2 he' hS'
         go_wp2_with fail
         go_ret2
         exact Or.inr ⟨H7.out,S,_,R5,HS.out,rfl,HMK.out,rfl,HE5.out,HM5.out⟩
end
end Go.Proofs.YtgphnkkdmlohlaaGreatDoor
