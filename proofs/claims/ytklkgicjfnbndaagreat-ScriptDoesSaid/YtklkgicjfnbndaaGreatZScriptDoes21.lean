/- parquetryref08.of, Parts. -/
import Derived.Test.YtklkgicjfnbndaaGreatZScriptDoes19
import Derived.Test.YtklkgicjfnbndaaGreatZScriptDoes18
import Derived.Test.YtklkgicjfnbndaaGreatZScriptDoes20
namespace Go.Proofs.YtklkgicjfnbndaaGreat
section
open Go.RowKit
set_option linter.unusedVariables false
end
section
open Go.RowKit
set_option linter.unusedVariables false
end
section
open Go.RowKit
set_option linter.unusedVariables false
structure EvP (X:Nat→Prop) (R:Reg) (w:World) (R':Reg) (w':World):Prop where
 os:w'.os=w.os
 tape:w'.tape=w.tape
 output:w'.output=w.output
 size:w.heap.size≤w'.heap.size
 block:∀ k,k<w.heap.size→R k=none→¬ X k→w'.heap[k]?=w.heap[k]?
 reg:∀ k r,R k=some r→R' k=some r
 free:∀ k,k<w.heap.size→R k=none→R' k=none
 inv:Inv R' w'
theorem Ev.toP {R R':Reg} {w w':World} (h:Ev R w R' w') (X:Nat→Prop):EvP X R w R' w':=⟨h.os,h.tape,h.output,h.size,fun k hk hr _=>h.block k hk hr,h.reg,h.free,h.inv⟩
theorem EvP.setCell {X:Nat→Prop} {R R1:Reg} {w w1:World} (h:EvP X R w R1 w1) {p:Addr} (hx:X p.block) (hr:R1 p.block=none) (u:Value):EvP X R w R1 (w1.setCell p u):=
 ⟨h.os,h.tape,h.output,by simpa using h.size,fun k hk hk0 hkx=>by
   rw[Below.heap_setCell _ _ _ _ (fun e=>hkx (by rw[e];exact hx))]
   exact h.block k hk hk0 hkx,h.reg,h.free,h.inv.setCell hr u⟩
theorem Ev.thenP {X:Nat→Prop} {R0 R R':Reg} {w0 w w':World} (h:Ev R0 w0 R w) (k:EvP X R w R' w') (hX:∀ i,X i→w0.heap.size≤i):Ev R0 w0 R' w':=
 ⟨k.os.trans h.os,k.tape.trans h.tape,k.output.trans h.output,Nat.le_trans h.size k.size,
  fun i hi hr=>(k.block i (Nat.lt_of_lt_of_le hi h.size) (h.free i hi hr) (fun hx=>by have:=hX i hx;omega)).trans (h.block i hi hr),
  fun i r hr=>k.reg _ _ (h.reg _ _ hr),fun i hi hr=>k.free i (Nat.lt_of_lt_of_le hi h.size) (h.free i hi hr),k.inv⟩
theorem OwnV.evP {X:Nat→Prop} {R R1:Reg} {B:Nat} {E:TypeId} {sz:Nat} {w w1:World} {v:Value} {n:Nat} {xs:List Value} (h:OwnV R B E sz w v n xs) (he:EvP X R w R1 w1) (hX:∀ i,X i→i<B):OwnV R1 B E sz w1 v n xs:=by
 obtain⟨⟨h1,h2⟩,h3⟩:=h
 rcases h2 with h2|⟨g,cap,cur,hv,hg,hh,r⟩
 ·exact⟨⟨h1,Or.inl h2⟩,fun k hk=>by rw[h2.1] at hk;simp[Value.ownBlock] at hk⟩
 ·have hn:R g=none:=h3 g (by rw[hv];rfl)
  refine⟨⟨h1,Or.inr ⟨g,cap,cur,hv,hg,by rw[he.block g (lt_of_block hh) hn (fun hx=>by have:=hX g hx;omega)];exact hh,r⟩⟩,fun k hk=>?_⟩
  rw[hv] at hk
  cases hk
  exact he.free g (lt_of_block hh) hn
def SeenAt (R:Reg) (B:Nat) (w:World) (vs p:Value) (b ge gm:Nat) (ed:List Int) (mt:List Bool):Prop:=
 vs=.pointer (some ⟨b,0,none⟩)∧B≤b∧R b=none∧b≠ge∧b≠gm∧ge≠gm ∧
 (∃ T:TypeId,w.heap[b]?=some (.cells #[p,.slice (some ⟨ge,0,none⟩) ed.length ed.length,.slice (some ⟨gm,0,none⟩) mt.length mt.length] T (0,0))) ∧
 OwnI R B 3 w (.slice (some ⟨ge,0,none⟩) ed.length ed.length) ed∧OwnV R B 4 1 w (.slice (some ⟨gm,0,none⟩) mt.length mt.length) mt.length (mt.map Value.bool)
theorem SeenAt.ev {R R1:Reg} {B:Nat} {w w1:World} {vs p:Value} {b ge gm:Nat} {ed:List Int} {mt:List Bool} (h:SeenAt R B w vs p b ge gm ed mt) (he:Ev R w R1 w1):SeenAt R1 B w1 vs p b ge gm ed mt:=by
 obtain⟨h1,h2,h3,h4,h5,h6,⟨T,h7⟩,h8,h9⟩:=h
 have hl:=lt_of_block h7
 exact⟨h1,h2,he.free b hl h3,h4,h5,h6,⟨T,by rw[he.block b hl h3];exact h7⟩,h8.ev he,h9.ev he⟩
theorem SeenAt.putE {R:Reg} {B:Nat} {w:World} {vs p:Value} {b ge gm:Nat} {ed:List Int} {mt:List Bool} (h:SeenAt R B w vs p b ge gm ed mt) {i:Nat} (hi:i<ed.length) (y:Int):
  SeenAt R B (w.setCell ⟨ge,i,none⟩ (.int .i64 y)) vs p b ge gm (ed.set i y) mt:=by
 obtain⟨h1,h2,h3,h4,h5,h6,⟨T,h7⟩,h8,h9⟩:=h
 refine⟨h1,h2,h3,h4,h5,h6,⟨T,?_⟩,?_,?_⟩
 ·rw[Below.heap_setCell _ _ _ _ h4,h7,List.length_set]
 ·rw[List.length_set];exact h8.put rfl i hi y
 ·exact h9.setCell (a:=⟨ge,i,none⟩) (fun e=>h6 (by cases e;rfl)) _
theorem SeenAt.putM {R:Reg} {B:Nat} {w:World} {vs p:Value} {b ge gm:Nat} {ed:List Int} {mt:List Bool} (h:SeenAt R B w vs p b ge gm ed mt) (i:Nat) (y:Bool):
  SeenAt R B (w.setCell ⟨gm,i,none⟩ (.bool y)) vs p b ge gm ed (mt.set i y):=by
 obtain⟨h1,h2,h3,h4,h5,h6,⟨T,h7⟩,h8,h9⟩:=h
 refine⟨h1,h2,h3,h4,h5,h6,⟨T,?_⟩,?_,?_⟩
 ·rw[Below.heap_setCell _ _ _ _ h5,h7,List.length_set]
 ·exact h8.setCell (a:=⟨gm,i,none⟩) (fun e=>h6 (by cases e;rfl)) _
 ·rw[List.length_set]
  have:=h9.put i (.bool y)
  rwa [List.map_set]
def KindQ (R:Reg) (B:Nat) (w:World) (vs p:Value) (b ge gm:Nat) (s:List Nat) (st:WSt) (e:Ending) (w':World):Prop:=
 ∃ R',e=.returned (.int .i64 (wkind s st:Int))∧EvP (fun k=>k=ge∨k=gm) R w R' w'∧SeenAt R' B w' vs p b ge gm (wed s st) (wmt s st)
theorem getB_at {l:List Bool} {i:Nat} (h:i<l.length):(l.map Value.bool)[i]?=some (.bool (getB l i)):=by
 simp[getB,h]
set_option maxRecDepth 100000 in
set_option maxHeartbeats 2000000 in
theorem kind_any (R:Reg) (w:World) (hI:Inv R w) (B:Nat) (vs p:Value) (b ge gm:Nat) (s:List Nat) (root lone:Int) (hp:MapAt R p s root lone) (st:WSt) (hs:SeenAt R B w vs p b ge gm st.ed st.mt)
  (hd:st.d<s.length) (hel:st.ed.length=s.length / 2) (hml:(sizesL s).length≤st.mt.length) (hmb:st.mt.length≤4194304) (hv:nth st.ed (st.d / 2)=0∨nth st.ed (st.d / 2)=1∨nth st.ed (st.d / 2)=3):
  Calls Tryz.prog 149 #[vs,.int .i64 (st.d:Int)] w (KindQ R B w vs p b ge gm s st):=by
 obtain⟨hS,hok⟩:=hp.ok hI
 have he2:s.length % 2=0:=hok.1
 have hn:s.length≤131073:=hok.2.1
 have hs0:=hs
 obtain⟨rfl,hBb,hRb,hbe,hbm,hem,⟨T,hblk⟩,hoe,hom⟩:=hs
 obtain⟨d,ed,mt⟩:=st
 simp only at hd hel hml hmb hv hblk hoe hom hs0 ⊢
 have hde:d / 2<ed.length:=by omega
 have hxl:=xor_one_lt he2 hd
 have hvl:=vtx_lt hS hxl
 have hvx:=vtx_eq hS hxl
 have HMt:=Lib.hid (fun R' w' (he:Ev R w R' w')=>by
  have:=mate_any R' w' he.inv p s root lone (he.map hp) d
  rwa [mateI_in hd] at this)
 have HVt:=Lib.hid (fun R' w' (he:Ev R w R' w')=>by
  have:=vertex_any R' w' he.inv p s root lone (he.map hp) ((d ^^^ 1:Nat):Int)
  rwa [nameI_in hxl,hvx] at this)
 obtain⟨c,hc⟩:∃ c,nth ed (d / 2)=c:=⟨_,rfl⟩
 obtain⟨_,e1,_,hRe,hce,hze⟩:=hoe.headAt rfl (i:=d / 2) hde
 cases e1
 rw[hc] at hce hv
 have hK:wkind s ⟨d,ed,mt⟩=if c=0 then (if getB mt (vtx s (d ^^^ 1))=true then 2 else 0) else if c=1 then 1 else 3:=by unfold wkind;rw[hc]
 have hE:wed s ⟨d,ed,mt⟩=if c=0 then ed.set (d / 2) ((wkind s ⟨d,ed,mt⟩:Int)+1) else ed:=by unfold wed;rw[hc]
 have hM:wmt s ⟨d,ed,mt⟩=if wkind s ⟨d,ed,mt⟩=0 then mt.set (vtx s (d ^^^ 1)) true else mt:=rfl
 obtain⟨x,hx⟩:∃ x,d ^^^ 1=x:=⟨_,rfl⟩
 obtain⟨v,hvv⟩:∃ v,vtx s x=v:=⟨_,rfl⟩
 rw[hx] at HMt HVt hvl hK hM
 rw[hvv] at HVt hvl hK hM
 have hq:(d:Int) / 2=((d / 2:Nat):Int):=by omega
 obtain⟨h,hh⟩:∃ h,d / 2=h:=⟨_,rfl⟩
 rw[hh] at hde hce hze hq hE hc
 have hqh:(d:Int) / 2=(h:Int):=hq
 have k0:w.cell? ⟨b,0,none⟩=some p:=cells_at hblk 0
 have k1:w.cell? ⟨b,1,none⟩=some (.slice (some ⟨ge,0,none⟩) ed.length ed.length):=cells_at hblk 1
 have k2:w.cell? ⟨b,2,none⟩=some (.slice (some ⟨gm,0,none⟩) mt.length mt.length):=cells_at hblk 2
 have HS0:=Lib.hid hs0
 have HI:=Lib.hid hI
 have HEr:=Lib.hid (Ev.refl hI)
 have HCL:=Lib.hid (fun R' w' (he:Ev R w R' w')=>(by
  have hb:=he.block b (lt_of_block hblk) hRb
  rw[hblk] at hb
  exact⟨cells_at hb 0,cells_at hb 1,cells_at hb 2⟩:w'.cell? ⟨b,0,none⟩=some p∧w'.cell? ⟨b,1,none⟩=some (.slice (some ⟨ge,0,none⟩) ed.length ed.length)∧w'.cell? ⟨b,2,none⟩=some (.slice (some ⟨gm,0,none⟩) mt.length mt.length)))
 have hel2:ed.length≤131073:=by omega
 have hvm:v<mt.length:=by omega
 clear hq hI hs0 hS hok hx hvv hvx hh hc hp hoe hom hblk hel hml hvl
 rcases hv with rfl|rfl|rfl
 ·rw[if_pos rfl] at hE
  by_cases hm:getB mt v=true
  ·rw[if_pos rfl,if_pos hm] at hK
   rw[hK] at hE hM
   rw[if_neg (by decide)] at hM
   have HE:=Lib.hid hE
   have HM:=Lib.hid hM
   have HK:=Lib.hid hK
   have HEd:=Lib.hid (Ev.refl HEr.out.inv).drew
   clear hE hM hK
   go_enter Tryz.func149,Tryz.ntmps149
   go_wp2_with fail
   go_cut [7] (fun s7 wx=>s7=.int .i64 (v:Int)∧∃ R',Ev R w R' wx)
   case first=>
    go_region_held3 (fun w'=>w'.cell? ⟨b,0,none⟩=some p∧w'.cell? ⟨b,1,none⟩=some (.slice (some ⟨ge,0,none⟩) ed.length ed.length)∧w'.cell? ⟨b,2,none⟩=some (.slice (some ⟨gm,0,none⟩) mt.length mt.length)) (exact⟨k0,k1,k2⟩) (first|(go_at_call 49;refine (HMt.out _ _ HEd.out).mono ?_;rintro e w' ⟨rfl,rfl⟩)|(go_at_call 65;refine (HVt.out _ _ HEd.out).mono ?_;rintro e w' ⟨rfl,R',he⟩;have HEd:=Lib.hid (HEd.out.trans he);clear he;obtain⟨k0,k1,k2⟩:=HCL.out _ _ HEd.out))
    all_goals (go_wp2_with fail;go_meet)
    all_goals exact⟨rfl,_,HEd.out⟩
   case rest=>
    obtain⟨rfl,R',he⟩:=hcut
    have HEx:=Lib.hid he
    obtain⟨k0,k1,k2⟩:=HCL.out _ _ he
    obtain⟨_,_,_,_,_,_,_,hoe,hom⟩:=HS0.out.ev he
    obtain⟨_,e1,hBe,hRe',hce,hze⟩:=hoe.headAt rfl (i:=h) hde
    cases e1
    have hmv:=getB_at (l:=mt) hvm
    obtain⟨_,e1,hBm,hRm',hcm,hzm⟩:=hom.headAt (i:=v) (by rw[List.length_map];exact hvm)
    cases e1
    rw[hmv] at hcm
    rw[hm] at hcm
    have hst:=hoe.put rfl h hde (3:Int)
    have HST:=Lib.hid hst
    have HOM:=Lib.hid hom
    have HOE:=Lib.hid hoe
    clear he hoe hom hst hmv
    go_wp2_with fail
    go_ret
    refine⟨R',by rw[HK.out];rfl,?_,?_⟩
    ·exact (HEx.out.toP _).setCell (Or.inl rfl) hRe' _
    ·rw[HE.out,HM.out]
     exact (HS0.out.ev HEx.out).putE hde 3
  ·rw[if_pos rfl,if_neg hm] at hK
   rw[hK] at hE hM
   rw[if_pos rfl] at hM
   have HE:=Lib.hid hE
   have HM:=Lib.hid hM
   have HK:=Lib.hid hK
   have HEd:=Lib.hid (Ev.refl HEr.out.inv).drew
   clear hE hM hK
   go_enter Tryz.func149,Tryz.ntmps149
   go_wp2_with fail
   go_cut [7] (fun s7 wx=>s7=.int .i64 (v:Int)∧∃ R',Ev R w R' wx)
   case first=>
    go_region_held3 (fun w'=>w'.cell? ⟨b,0,none⟩=some p∧w'.cell? ⟨b,1,none⟩=some (.slice (some ⟨ge,0,none⟩) ed.length ed.length)∧w'.cell? ⟨b,2,none⟩=some (.slice (some ⟨gm,0,none⟩) mt.length mt.length)) (exact⟨k0,k1,k2⟩) (first|(go_at_call 49;refine (HMt.out _ _ HEd.out).mono ?_;rintro e w' ⟨rfl,rfl⟩)|(go_at_call 65;refine (HVt.out _ _ HEd.out).mono ?_;rintro e w' ⟨rfl,R',he⟩;have HEd:=Lib.hid (HEd.out.trans he);clear he;obtain⟨k0,k1,k2⟩:=HCL.out _ _ HEd.out))
    all_goals (go_wp2_with fail;go_meet)
    all_goals exact⟨rfl,_,HEd.out⟩
   case rest=>
    obtain⟨rfl,R',he⟩:=hcut
    have HEx:=Lib.hid he
    obtain⟨k0,k1,k2⟩:=HCL.out _ _ he
    obtain⟨_,_,_,_,_,_,_,hoe,hom⟩:=HS0.out.ev he
    obtain⟨_,e1,hBe,hRe',hce,hze⟩:=hoe.headAt rfl (i:=h) hde
    cases e1
    have hmv:=getB_at (l:=mt) hvm
    obtain⟨_,e1,hBm,hRm',hcm,hzm⟩:=hom.headAt (i:=v) (by rw[List.length_map];exact hvm)
    cases e1
    rw[hmv] at hcm
    rw[show getB mt v=false by simpa using hm] at hcm
    have hst:=hoe.put rfl h hde (1:Int)
    have HST:=Lib.hid hst
    have HOM:=Lib.hid hom
    have HOE:=Lib.hid hoe
    clear he hoe hom hst hmv
    go_wp2_with fail
    go_ret
    refine⟨R',by rw[HK.out];rfl,?_,?_⟩
    ·exact ((HEx.out.toP _).setCell (p:=⟨gm,v,none⟩) (Or.inr rfl) hRm' _).setCell (p:=⟨ge,h,none⟩) (Or.inl rfl) hRe' _
    ·rw[HE.out,HM.out]
     exact ((HS0.out.ev HEx.out).putM v true).putE hde 1
 ·rw[if_neg (by decide)] at hE
  rw[if_neg (by decide),if_pos rfl] at hK
  rw[hK,if_neg (by decide)] at hM
  have HE:=Lib.hid hE
  have HM:=Lib.hid hM
  have HK:=Lib.hid hK
  clear hE hM hK
  go_enter Tryz.func149,Tryz.ntmps149
  go_wp2_with fail
  go_ret
  exact⟨R,by rw[HK.out];rfl,HEr.out.toP _,by rw[HE.out,HM.out];exact HS0.out⟩
 ·rw[if_neg (by decide)] at hE
  rw[if_neg (by decide),if_neg (by decide)] at hK
  rw[hK,if_neg (by decide)] at hM
  have HE:=Lib.hid hE
  have HM:=Lib.hid hM
  have HK:=Lib.hid hK
  clear hE hM hK
  go_enter Tryz.func149,Tryz.ntmps149
  go_wp2_with fail
  go_ret
  exact⟨R,by rw[HK.out];rfl,HEr.out.toP _,by rw[HE.out,HM.out];exact HS0.out⟩
end
section
open Go.RowKit
set_option linter.unusedVariables false
def stepsV:List (Int × Int)→List Value
 | []=>[]
 | x :: l=>.int .i64 x.1 :: .int .i64 x.2 :: stepsV l
theorem stepsV_length:∀ l,(stepsV l).length=l.length*2
 | []=>rfl
 | x :: l=>by
  show (stepsV l).length+1+1=(l.length+1)*2
  rw[stepsV_length l];omega
theorem stepsV_append:∀ l m,stepsV (l ++ m)=stepsV l ++ stepsV m
 | [],_=>rfl
 | x :: l,m=>by
  show _ :: _ :: stepsV (l ++ m)=_ :: _ :: (stepsV l ++ stepsV m)
  rw[stepsV_append l m]
def nthS (l:List (Int × Int)) (i:Nat):Int × Int:=l.getD i (0,0)
theorem stepsV_get:∀ {l:List (Int × Int)} {i:Nat},i<l.length→(stepsV l)[i*2]?=some (.int .i64 (nthS l i).1)∧(stepsV l)[i*2+1]?=some (.int .i64 (nthS l i).2)
 | x :: l,0,_=>⟨rfl,rfl⟩
 | x :: l,i+1,h=>by
  have ih:=stepsV_get (l:=l) (i:=i) (by simpa using h)
  have e:(i+1)*2=i*2+1+1:=by omega
  rw[e]
  exact ih
theorem nthS_get {l:List (Int × Int)} {i:Nat} (h:i<l.length):nthS l i=l[i]:=by
 unfold nthS;rw[List.getD_eq_getElem?_getD,List.getElem?_eq_getElem h];rfl
theorem cells_new (w:World) (l:List Value) (T:TypeId) (j:Nat) (u:Value) (h:l[j]?=some u):(w.alloc (.cells l.toArray T)).cell? ((⟨w.heap.size,0,none⟩:Addr).add j)=some u:=by
 have hadd:(⟨w.heap.size,0,none⟩:Addr).add j=⟨w.heap.size,j,none⟩:=by unfold Addr.add;split <;> simp_all
 rw[hadd]
 simp[h]
theorem step_info:(Tryz.prog.info? 155).map (fun i=>(i.zero,i.size,i.bytes))=some (some (.agg #[.int .i64 0,.int .i64 0]),2,16):=by kernel_rfl
theorem make_eq {n:Nat} {z:Value} {t e:TypeId} {i:TypeInfo} (h1:Tryz.prog.underlying t=some (.slice e)) (h2:Tryz.prog.info? e=some i) (h3:i.zero=some z) (h4:i.size=1) (b2:i.bytes*n≤281474976710656) (b3:n≤maxLen) (W:World):
  (Instr.makeSlice t (.int .i64 (n:Int)) (.int .i64 (n:Int))).run Tryz.prog W=.ok (.slice (some ⟨W.heap.size,0,none⟩) n n) (W.alloc (.cells (madeCells z.cells (n*1)) e)):=by
 have h63':(n:Int)≤9223372036854775807:=by
  have h:=b3
  simp[maxLen] at h
  omega
 have hb':(i.bytes:Int)*(n:Int)≤281474976710656:=by
  have h:((i.bytes*n:Nat):Int)≤281474976710656:=by omega
  rwa [Int.natCast_mul] at h
 have hr:=run_make (P:=Tryz.prog) W t e i z h1 h2 h3 .i64 .i64 n n (by omega) (Int.le_refl _) hb' h63'
 simp only[Int.toNat_natCast,h4] at hr
 exact hr
theorem OwnV.madeAt {R:Reg} {w1:World} {B:Nat} {E:TypeId} {g n:Nat} {z:Value} (hg:R g=none) (ho:w1.ownsRow B E 1 (.slice (some ⟨g,0,none⟩) n n) n (madeCells #[z] (n*1)).toList):
  OwnV R B E 1 w1 (.slice (some ⟨g,0,none⟩) n n) n (List.replicate n z):=by
 refine⟨?_,fun k hk=>?_⟩
 ·rw[Nat.mul_one,toList_madeCells_one] at ho
  exact ho
 ·simp only[Value.ownBlock,Option.some.injEq] at hk
  rw[←hk];exact hg
theorem rowI_made {R:Reg} {W:World} {B n:Nat} (hI:Inv R W) (hB:B≤W.heap.size) (hn:n≤maxLen):
  OwnI R B 3 (W.alloc (.cells (madeCells #[.int .i64 0] (n*1)) 3)) (.slice (some ⟨W.heap.size,0,none⟩) n n) (List.replicate n 0):=by
 have h:=World.ownsRow_lit (size:=1) (e:=3) W _ n hB hn (size_madeCells #[.int .i64 0] (n*1))
 exact OwnI.made hI (by simpa using h)
theorem rowV_made {R:Reg} {W:World} {B n:Nat} {E:TypeId} {z:Value} (hI:Inv R W) (hB:B≤W.heap.size) (hn:n≤maxLen):
  OwnV R B E 1 (W.alloc (.cells (madeCells #[z] (n*1)) E)) (.slice (some ⟨W.heap.size,0,none⟩) n n) n (List.replicate n z):=by
 have h:=World.ownsRow_lit (size:=1) (e:=E) W _ n hB hn (size_madeCells #[z] (n*1))
 exact OwnV.madeAt (hI.none_of_ge (Nat.le_refl _)) h
end
end Go.Proofs.YtklkgicjfnbndaaGreat
