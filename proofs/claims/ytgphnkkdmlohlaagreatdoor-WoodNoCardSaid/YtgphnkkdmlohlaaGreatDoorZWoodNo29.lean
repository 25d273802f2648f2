/- append(s, make([]int, k)...) onto a row of one's own. -/
import Derived.Test.YtgphnkkdmlohlaaGreatDoorZWoodNo24
import Derived.Lib.AppendZerosOnto
import Derived.ArgAppend
import Derived.Test.YtgphnkkdmlohlaaGreatDoorZWoodNo21
import Derived.Test.YtgphnkkdmlohlaaGreatDoorZWoodNo11
import Derived.Test.YtgphnkkdmlohlaaGreatDoorZWoodNo12
namespace Go.Proofs.YtgphnkkdmlohlaaGreatDoor
section
open Go.RowKit
set_option linter.unusedVariables false
theorem run_append_room_zeros {P:Program} (w:World) (t tn ty e:TypeId) (i:TypeInfo) (z:Value) (kn:IntKind) (ht:P.underlying t=some (.slice e)) (htn:P.underlying tn=some (.int kn)) (hi:P.info? e=some i) (hz:i.zero=some z)
  (b off sLen sCap k:Nat) (hk:0<k) (hs:0<i.size) (hroom:sLen+k≤sCap) (hkm:k≤8388608) (hby:k*i.bytes≤281474976710656)
  (hc:∀ j,j<(Builtin.zeroCells z.cells k).toList.length→(w.cell? ⟨b,off+sLen*i.size+j,none⟩).isSome=true) (hf:∀ j,j<(Builtin.zeroCells z.cells k).toList.length→w.frozen? ⟨b,off+sLen*i.size+j,none⟩=false)
  (h1:∀ u∈(Builtin.zeroCells z.cells k).toList,u.oneCell'=true):
  (Builtin.append_ #[t,tn] ty #[.slice (some ⟨b,off,none⟩) sLen sCap,.int .i64 k]).run P w=.ok (.slice (some ⟨b,off,none⟩) (sLen+k) sCap) (w.setCells b (off+sLen*i.size) (Builtin.zeroCells z.cells k).toList):=by
 have hst:=run_storeCells_cells (P:=P) b (off+sLen*i.size) (Builtin.zeroCells z.cells k).toList 0 w (by simpa using hc) (by simpa using hf) h1
 simp only[Nat.add_zero] at hst
 have hk0:k≠0:=by omega
 have hw:IntKind.i64.wrap (k:Int)=k:=by rw[IntKind.wrap_i64];omega
 have hneg:¬ ((k:Int)<0):=by omega
 have hns:¬ (k*i.size=0):=Nat.mul_ne_zero hk0 (by omega)
 have h48i:¬ (281474976710656<(k:Int)*(i.bytes:Int)):=by
  rw[←Int.natCast_mul]
  omega
 simp[Builtin.append_,run_underlying ht,run_underlying htn,sizeOf,typeInfo,zeroValue,hi,hz,asInt,asIntOf,hw,hneg,hns,h48i,hroom,Addr.add_lit,hst]
theorem zeroCells_int (k:Nat):(Builtin.zeroCells #[.int .i64 0] k).toList=(List.replicate k (0:Int)).map (Value.int .i64):=by
 refine List.ext_getElem (by simp[Builtin.zeroCells]) fun j h1 h2=>?_
 simp[Builtin.zeroCells,Nat.mod_one]
theorem setCells_block {E:TypeId} {g:Nat}:∀ (vs:List Value) (o:Nat) (w:World) (cur:Array Value),w.heap[g]?=some (.cells cur E (0,0))→o+vs.length≤cur.size →
  ∃ cur',(w.setCells g o vs).heap[g]?=some (.cells cur' E (0,0))∧cur'.size=cur.size∧∀ j,cur'[j]?=if o≤j∧j<o+vs.length then vs[j-o]? else cur[j]?
 | [],o,w,cur,h,hl=>⟨cur,h,rfl,fun j=>by rw[if_neg (fun e=>by simp at e;omega)]⟩
 | v :: vs,o,w,cur,h,hl=>by
  simp only[List.length_cons] at hl
  have h1:(w.setCell ⟨g,o,none⟩ v).heap[g]?=some (.cells (cur.setIfInBounds o v) E (0,0)):=heap_setCell_same _ _ _ _ _ _ h
  obtain⟨cur',a1,a2,a3⟩:=setCells_block vs (o+1) (w.setCell ⟨g,o,none⟩ v) _ h1 (by simp;omega)
  refine⟨cur',a1,by rw[a2];simp,fun j=>?_⟩
  rw[a3]
  simp only[List.length_cons]
  by_cases e1:o+1≤j∧j<o+1+vs.length
  ·rw[if_pos e1,if_pos (by omega),show j-o=(j-(o+1))+1 by omega,List.getElem?_cons_succ]
  ·rw[if_neg e1,Array.getElem?_setIfInBounds]
   by_cases e2:o=j
   ·subst e2
    rw[if_pos rfl,if_pos (by omega),if_pos (by omega)]
    simp
   ·rw[if_neg e2,if_neg (by omega)]
theorem wpList_app_zeros {w:World} {ops:Array Oper} {rest:List Oper} {o:Oper} {a:Act} {Q:Exit→Act→World→Prop} (hgd:o.guard=none) (s x:Operand)
  (ho:o.op=.call { callee:=.builtin .append,args:=#[s,x],argTypes:=#[25,3] })
  {R:Reg} {B g n cap:Nat} {xs:List Int} (hown:OwnI R B 3 w (.slice (some ⟨g,0,none⟩) n cap) xs) (hs:a.eval s=.slice (some ⟨g,0,none⟩) n cap) (k:Nat) (hx:a.eval x=.int .i64 (k:Int))
  (hxn:xs.length=n) (hk:0<k) (hn:n+k≤1000000) (hB:B≤w.heap.size) (hR:∀ k,w.heap.size≤k→R k=none)
  (h:∀ v' w',OwnI R B 3 w' v' (xs ++ List.replicate k 0)→w.grownBy w' (some g)→(∀ j,v'.ownBlock=some j→j=g∨w.heap.size≤j)→wpList Tryz.prog ops Q rest (a.put o.dst v') w'):
  wpList Tryz.prog ops Q (o :: rest) a w:=by
 obtain⟨i0,hi,hz0,hz1,hz2⟩:=info_parts int_info
 refine wpList_plain hgd fun K' hK'=>?_
 subst hxn
 obtain⟨⟨hlen,h2⟩,h3⟩:=hown
 rcases h2 with ⟨h2,_⟩|⟨g',cap',cur,hv,hg,hh,hnc,hm,hsz,ht⟩
 ·cases h2
 ·cases hv
  have hcells:∀ j,(w.cell? ⟨g,j,none⟩)=cur[j]?:=fun j=>cells_at hh j
  have hsz1:cur.size=cap:=by omega
  have hzl:(Builtin.zeroCells (Value.int .i64 0).cells k).toList=(List.replicate k (0:Int)).map (Value.int .i64):=zeroCells_int k
  have hone:∀ u∈(Builtin.zeroCells (Value.int .i64 0).cells k).toList,u.oneCell'=true:=fun u hu=>by
   rw[hzl] at hu
   obtain⟨y,_,rfl⟩:=List.mem_map.1 hu
   rfl
  have hold:∀ j,j<xs.length→cur[j]?=some (.int .i64 (nth xs j)):=fun j hj=>by
   have hx:(xs.map (Value.int .i64))[j]?=some (.int .i64 (nth xs j)):=by simp[nth,hj]
   rw[←ht,List.getElem?_take] at hx
   split at hx
   ·simpa using hx
   ·cases hx
  by_cases hroom:xs.length+k≤cap
  ·have hrun:=run_append_room_zeros (P:=Tryz.prog) w 25 3 o.type 3 i0 (.int .i64 0) .i64 Tryz.underlying25 Tryz.underlying3 hi hz0 g 0 xs.length cap k hk (by omega) hroom (by omega) (by rw[hz2];omega)
    (fun j hj=>by
     rw[hzl] at hj
     simp at hj
     rw[hcells,hz1,Array.getElem?_eq_getElem (by omega)];rfl)
    (fun j hj=>by simp[World.frozen?,hh]) hone
   rw[hz1,hzl,Nat.mul_one,Nat.zero_add] at hrun
   obtain⟨cur',b1,b2,b3⟩:=setCells_block ((List.replicate k (0:Int)).map (Value.int .i64)) xs.length w cur hh (by simp;omega)
   have hnew:OwnI R B 3 (w.setCells g xs.length ((List.replicate k (0:Int)).map (Value.int .i64))) (.slice (some ⟨g,0,none⟩) (xs.length+k) cap) (xs ++ List.replicate k 0):=by
    refine⟨⟨by simp,Or.inr ⟨g,cap,cur',by simp,hg,b1,by simp;omega,hm,by omega,?_⟩⟩,h3⟩
    refine List.ext_getElem? fun j=>?_
    rw[List.getElem?_take]
    by_cases hj:j<(xs ++ List.replicate k (0:Int)).length*1
    ·rw[if_pos hj,Array.getElem?_toList,b3]
     simp at hj
     by_cases e:xs.length≤j∧j<xs.length+((List.replicate k (0:Int)).map (Value.int .i64)).length
     ·rw[if_pos e,List.map_append,List.getElem?_append_right (by simp;omega)]
      simp
     ·rw[if_neg e,hold j (by simp at e;omega),List.map_append,List.getElem?_append_left (by simp at e ⊢;omega)]
      have:j<xs.length:=by simp at e;omega
      simp[nth,this]
    ·rw[if_neg hj]
     simp at hj ⊢
     omega
   have hgr:w.grownBy (w.setCells g xs.length ((List.replicate k (0:Int)).map (Value.int .i64))) (some g):=by
    have hgen:∀ (vs:List Value) (o:Nat) (w:World),w.grownBy (w.setCells g o vs) (some g):=fun vs=>by
     induction vs with
     | nil=>exact fun o w=>World.grownBy.refl w _
     | cons v vs ih=>
      intro o w
      have h1:w.grownBy (w.setCell ⟨g,o,none⟩ v) (some g):=⟨rfl,rfl,rfl,by simp[World.setCell],fun k hk hne=>Below.heap_setCell _ _ _ _ (fun e=>hne (by rw[e]))⟩
      exact h1.trans (ih (o+1) _)
    exact hgen _ _ _
   rw[List.map_replicate] at hrun hnew hgr
   have hfin:=h _ _ hnew hgr (fun j hj=>Or.inl (Option.some.inj (show some g=some j from hj)).symm)
   unfold Oper.wp
   simp[execOp,ho,resolve,invoke,builtin,hs,hx,hrun,Result.andThen]
   exact hK' _ _ hfin
  ·have hfc:=run_firstCells_some (P:=Tryz.prog) w.drew i0.size xs.length ⟨g,0,none⟩ xs.length cap (xs.map (Value.int .i64)) (by rw[hz1];simp) (fun j u hj=>by
    have hjl:j<xs.length:=by have:=(List.getElem?_eq_some_iff.1 hj).1;simpa using this
    have h1:w.drew.cell? ((⟨g,0,none⟩:Addr).add j)=cur[j]?:=by rw[Addr.add_lit,Nat.zero_add];exact hcells j
    rw[h1,hold j hjl,←hj]
    simp[nth,hjl])
   have hsmall:xs.length+k≤1000000:=hn
   have hrun:=Go.Lib.run_append_grow_zeros (P:=Tryz.prog) w 25 3 o.type 3 i0 (.int .i64 0) .i64 .i64 Tryz.underlying25 Tryz.underlying3 hi hz0 (some ⟨g,0,none⟩) xs.length cap (xs.map (Value.int .i64)) hfc k hk (by omega) (by omega) (by omega) (by rw[hz2];omega)
    (by rw[hz2];exact growslice_fits (by omega) (by omega))
   have hge:=grownCap_ge w (xs.length+k) cap 3
   have hcm:grownCap w (xs.length+k) cap 3≤maxLen:=grownCap_le_maxLen w (xs.length+k) cap 3 (by unfold maxLen;omega)
   have hzc:∀ m,(Builtin.zeroCells (Value.int .i64 0).cells m).size=m:=fun m=>by rw[←Array.length_toList,show (Value.int .i64 0).cells=#[.int .i64 0] from rfl,zeroCells_int];simp
   have hblk:=heap_alloc_new w.drew (.cells ((xs.map (Value.int .i64)).toArray ++ Builtin.zeroCells (Value.int .i64 0).cells k ++ Builtin.zeroCells (Value.int .i64 0).cells (grownCap w (xs.length+k) cap 3-(xs.length+k))) 3)
   have hnew:OwnI R B 3 (w.drew.alloc (.cells ((xs.map (Value.int .i64)).toArray ++ Builtin.zeroCells (Value.int .i64 0).cells k ++ Builtin.zeroCells (Value.int .i64 0).cells (grownCap w (xs.length+k) cap 3-(xs.length+k))) 3)) (.slice (some ⟨w.heap.size,0,none⟩) (xs.length+k) (grownCap w (xs.length+k) cap 3)) (xs ++ List.replicate k 0):=by
    refine⟨⟨by simp,Or.inr ⟨w.heap.size,_,_,by simp,hB,hblk,by simp;omega,hcm,?_,?_⟩⟩,fun j hj=>hR j (Nat.le_of_eq (Option.some.inj (show some w.heap.size=some j from hj)))⟩
    ·simp only[Array.size_append,hzc,List.size_toArray,List.length_map]
     omega
    ·simp only[Array.toList_append,hzl]
     rw[←List.map_append]
     exact List.take_left' (by simp)
   have hgr:w.grownBy (w.drew.alloc (.cells ((xs.map (Value.int .i64)).toArray ++ Builtin.zeroCells (Value.int .i64 0).cells k ++ Builtin.zeroCells (Value.int .i64 0).cells (grownCap w (xs.length+k) cap 3-(xs.length+k))) 3)) (some g):=⟨rfl,rfl,rfl,by simp,fun j hj _=>heap_alloc_old w.drew _ hj⟩
   have hfin:=h _ _ hnew hgr (fun j hj=>Or.inr (Nat.le_of_eq (Option.some.inj (show some w.heap.size=some j from hj))))
   obtain⟨W,hW⟩:∃ W,w.drew.alloc (.cells ((xs.map (Value.int .i64)).toArray ++ Builtin.zeroCells (Value.int .i64 0).cells k ++ Builtin.zeroCells (Value.int .i64 0).cells (grownCap w (xs.length+k) cap 3-(xs.length+k))) 3)=W:=⟨_,rfl⟩
   rw[hW] at hrun hfin
   unfold Oper.wp
   simp[execOp,ho,resolve,invoke,builtin,hs,hx,hrun,Result.andThen]
   exact hK' _ _ hfin
end
section
open Go.RowKit
set_option linter.unusedVariables false
theorem orb_prev {s:List Nat} (hs:IsPerm s) {d i:Nat} (hd:d<s.length) (hi:i<(orbitL s d).length):at' s (at' (orbitL s d) ((i+(orbitL s d).length-1) % (orbitL s d).length))=at' (orbitL s d) i:=by
 obtain⟨c,hc,hcl,he⟩:=orbitL_map hs hd
 have hl:(orbitL s d).length=c:=by rw[he];simp
 have ha:∀ j,j<c→at' (orbitL s d) j=it s j d:=fun j hj=>by rw[he];simp[at',hj]
 have hsucc:∀ j,it s (j+1) d=at' s (it s j d):=fun j=>by rw[it_itf,it_itf,itf_succ]
 rw[hl] at hi ⊢
 by_cases h0:i=0
 ·subst h0
  rw[Nat.zero_add,Nat.mod_eq_of_lt (by omega),ha _ (by omega),ha 0 hc,←hsucc,show c-1+1=c by omega,hcl]
  rfl
 ·rw[show i+c-1=(i-1)+c by omega,Nat.add_mod_right,Nat.mod_eq_of_lt (by omega),ha _ (by omega),ha i hi,←hsucc,show i-1+1=i by omega]
set_option maxRecDepth 100000 in
set_option maxHeartbeats 3000000 in
theorem r14put_any (R:Reg) (w:World) (hI:Inv R w) (v:Value) (s:List Nat) (root lone:Int) (hv:FreeI R w v (toI s)) (hS:IsPerm s) (hn:s.length≤100000) (he:s.length % 2=0) (d:Nat) (hd:d<s.length):
  Calls Tryz.prog 27 #[refV v root lone,.int .i64 (d:Int)] w (RetMap R w (starC s (orbitL (phiL s) d)) root 0):=by
 obtain⟨a0,c0,rfl,_⟩:=hv.open
 rw[toI_length] at hv ⊢
 unfold refV
 have hph:=phiL_perm hS he
 have hpl:=phiL_length s
 have HPhi:=Lib.hid (fun w' (hee:Ev R w R w')=>rphi_any R w' hee.inv _ s root lone (hv.ev hee) (by omega) he)
 have HOrb:=Lib.hid (fun w' v (hI:Inv R w') (hvp:FreeI R w' v (toI (phiL s)))=>rorbit_any R w' hI v (phiL s) hvp hph (by rw[hpl];omega) d (by rw[hpl];exact hd))
 unfold refV at HPhi
 have hnd:=orbitL_nodup hph (i:=d) (by rw[hpl];exact hd)
 have hlt:=orbitL_lt hph (i:=d) (by rw[hpl];exact hd)
 have hprev:=fun i (hi:i<(orbitL (phiL s) d).length)=>orb_prev hph (by rw[hpl];exact hd) hi
 have hol:=orbitL_length (phiL s) d
 have hm0:0<(orbitL (phiL s) d).length:=by unfold orbitL;simp
 obtain⟨O,hO⟩:∃ O,orbitL (phiL s) d=O:=⟨_,rfl⟩
 rw[hO] at HOrb hnd hlt hprev hol hm0
 rw[hpl] at hlt hol
 have he1:Ev R w R (w.alloc (.cells #[.slice a0 s.length c0,.int .i64 root,.int .i64 lone] 27)):=(Ev.refl hI).alloc _
 have he2:=he1.alloc (.cells #[.slice none 0 0,.int .i64 0,.int .i64 0] 27)
 have hb1:((w.alloc (.cells #[.slice a0 s.length c0,.int .i64 root,.int .i64 lone] 27)).alloc (.cells #[.slice none 0 0,.int .i64 0,.int .i64 0] 27)).heap[w.heap.size]?=some (.cells #[.slice a0 s.length c0,.int .i64 root,.int .i64 lone] 27 (0,0)):=by
  rw[Below.heap_alloc _ _ _ (by simp)]
  exact heap_alloc_new w _
 have hb2:((w.alloc (.cells #[.slice a0 s.length c0,.int .i64 root,.int .i64 lone] 27)).alloc (.cells #[.slice none 0 0,.int .i64 0,.int .i64 0] 27)).heap[w.heap.size+1]?=some (.cells #[.slice none 0 0,.int .i64 0,.int .i64 0] 27 (0,0)):=by
  have:=heap_alloc_new (w.alloc (.cells #[.slice a0 s.length c0,.int .i64 root,.int .i64 lone] 27)) (.cells #[.slice none 0 0,.int .i64 0,.int .i64 0] 27)
  simpa using this
 have hn1:R w.heap.size=none:=hI.none_of_ge (Nat.le_refl _)
 have hn2:R (w.heap.size+1)=none:=hI.none_of_ge (by omega)
 have HV:=Lib.hid hv
 have HS:=Lib.hid hS
 have HEv:=Lib.hid he
 have HNd:=Lib.hid hnd
 have HLt:=Lib.hid hlt
 have HPr:=Lib.hid hprev
 have HOe:=Lib.hid hO
 clear hI hv hS he hph hpl hnd hlt hprev hO he1
 go_enter Tryz.func27,Tryz.ntmps27
 go_upto_region 1 with fail
 obtain⟨w2,hw2⟩:∃ w2,w2=(w.alloc (.cells #[.slice a0 s.length c0,.int .i64 root,.int .i64 lone] 27)).alloc (.cells #[.slice none 0 0,.int .i64 0,.int .i64 0] 27):=⟨_,rfl⟩
 rw[←hw2] at he2 hb1 hb2 ⊢
 have HB1:=Lib.hid (fun w' (h:Ev R w2 R w')=>boxC_cells (h.boxC3 hb1 hn1).1)
 have HB2:=Lib.hid (fun w' (h:Ev R w2 R w')=>h.boxC3 hb2 hn2)
 have HE2:=Lib.hid he2
 have HI2:=Lib.hid he2.inv
 have HSz2:=Lib.hid (show w2.heap.size=w.heap.size+2 by rw[hw2];simp)
 obtain⟨x0,x1,x2,_⟩:=HB1.out _ (Ev.refl he2.inv)
 clear hw2 he2 hb1 hb2 hn1 hn2
 obtain⟨n,hnn⟩:∃ n,s.length=n:=⟨_,rfl⟩
 obtain⟨m,hmm⟩:∃ m,O.length=m:=⟨_,rfl⟩
 have HN:=Lib.hid hnn
 have HM:=Lib.hid hmm
 rw[hnn] at hn hd hol HPhi HV HB1 x0
 rw[hmm] at hol hm0
 try rw[hnn]
 clear hnn hmm
 go_wp2_with fail
 refine (HPhi.out _ HE2.out).mono ?_
 rintro z w3 ⟨v3,rfl,he3,ho3⟩
 have HE3:=Lib.hid ((Ev.refl HI2.out).trans he3)
 have HO3:=Lib.hid ho3.free
 clear he3 ho3 x0 x1 x2
 go_wp2_with fail
 refine (HOrb.out _ _ HE3.out.inv HO3.out).mono ?_
 rintro z w4 ⟨v4,rfl,he4,ho4⟩
 obtain⟨a4,c4,rfl,_⟩:=ho4.ints.open
 rw[toI_length,HM.out] at ho4 ⊢
 have HE4:=Lib.hid (HE3.out.trans he4)
 have HO4:=Lib.hid (ho4.mono HE3.out.size)
 clear he4 ho4 HE3 HO3
 obtain⟨x0,x1,x2,_⟩:=HB1.out _ HE4.out
 have hE0:=HE4.out.alloc (.cells #[] 3)
 have hO0:OwnI R w2.heap.size 3 (w4.alloc (.cells #[] 3)) (.slice (some ⟨w4.heap.size,0,none⟩) 0 0) []:=⟨⟨by simp,Or.inr ⟨w4.heap.size,0,#[],by simp,HE4.out.size,heap_alloc_new _ _,by simp,by simp[maxLen],by simp,by simp⟩⟩,fun j hj=>HE4.out.inv.none_of_ge (Nat.le_of_eq (Option.some.inj (show some w4.heap.size=some j from hj)))⟩
 have hvw:=(HV.out.ev (HE2.out.trans hE0))
 obtain⟨bS,oS,rfl,_⟩:=hvw.at (i:=0) (by rw[HN.out];omega)
 have hsrc:∀ j,j<n→(w4.alloc (.cells #[] 3)).cell? ((⟨bS,oS,none⟩:Addr).add j)=some (.int .i64 (nth (toI s) j)):=fun j hj=>by
  obtain⟨b',o',e',hc⟩:=hvw.at (i:=j) (by rw[HN.out];exact hj)
  cases e'
  rw[Addr.add_lit,hc,toI_nth]
 have HE0:=Lib.hid hE0
 have z0:=(HB1.out _ hE0).1
 have HO0:=Lib.hid hO0
 have HSrc:=Lib.hid hsrc
 have hsl:(toI s).length=n:=by rw[toI_length,HN.out]
 have HSl:=Lib.hid hsl
 have ho4l:∀ k,(Value.slice a4 m c4).ownBlock=some k→k<w4.heap.size:=fun k hk=>(HO4.out.lt k hk).2
 have HO4l:=Lib.hid ho4l
 clear hE0 hO0 hvw hsrc hsl ho4l x1 x2
 go_wp2_with (at_builtin;refine wpList_app_ints (R:=R) (B:=w2.heap.size) rfl _ _ rfl HO0.out rfl ⟨bS,oS,none⟩ n c0 (toI s) HSl.out ?a0 ?a1 ?a2 ?a3 ?a4 ?_)
 try (case a0=>first|rfl|simp)
 case a1=>exact HSrc.out
 case a2=>simp;omega
 case a3=>have:=HE0.out.size;exact this
 case a4=>exact fun q hq=>HE0.out.inv.none_of_ge hq
 intro v5 w5 ho5 hg5 hs5
 try rw[List.nil_append] at ho5
 obtain⟨a5,c5,rfl,_⟩:=ho5.ints.open
 rw[HSl.out] at ho5 hs5 ⊢
 obtain⟨g5,rfl,hg5b,hg5r,_,_⟩:=ho5.headAt HSl.out (i:=0) (by omega)
 have HE5:=Lib.hid (HE0.out.app HO0.out (Nat.le_refl _) hg5)
 have HO5:=Lib.hid ho5
 have h04:(Value.slice a4 m c4).ownBlock=none∨(Value.slice a4 m c4).ownBlock≠(Value.slice (some ⟨w4.heap.size,0,none⟩) 0 0).ownBlock:=Or.inr (fun e=>by have:=HO4l.out w4.heap.size e;omega)
 have HO45:=Lib.hid ((HO4.out.alloc (.cells #[] 3)).kept hg5 h04)
 have hg45:w4.heap.size≤g5:=by
  rcases hs5 g5 rfl with h|h
  ·have:=Option.some.inj (show some w4.heap.size=some g5 from h);omega
  ·first|omega|(simp at h;omega)
 have hz2:IntKind.i64.wrap (2*(m:Int))=((2*m:Nat):Int):=by rw[show 2*(m:Int)=((2*m:Nat):Int) by omega];exact IntWalk.i64_in _ (by omega)
 obtain⟨m2,hm2⟩:∃ x,2*m=x:=⟨_,rfl⟩
 rw[hm2] at hz2
 have HM2:=Lib.hid hm2
 clear ho5 hg5 hs5 HE0 HO0 h04 hm2 HSrc
 go_wp2_with (at_builtin;refine wpList_app_zeros (R:=R) (B:=w2.heap.size) rfl _ _ rfl HO5.out rfl m2 rfl HSl.out ?b0 ?b1 ?b2 ?b3 ?_)
 case b0=>have:=HM2.out;omega
 case b1=>have:=HM2.out;omega
 case b2=>exact HE5.out.size
 case b3=>exact fun q hq=>HE5.out.inv.none_of_ge hq
 intro v6 w6 ho6 hg6 hs6
 have hz:toI s ++ List.replicate m2 0=toI (putG s O 0):=by rw[putG_zero,HM.out,HM2.out];simp[toI]
 rw[hz] at ho6
 obtain⟨N,hN⟩:∃ N,n+m2=N:=⟨_,rfl⟩
 have HNe:=Lib.hid hN
 have hpl:∀ i,(toI (putG s O i)).length=N:=fun i=>by rw[toI_length,putG_length,HN.out,HM.out];have:=HM2.out;omega
 have HPl:=Lib.hid hpl
 obtain⟨a6,c6,rfl,_⟩:=ho6.ints.open
 rw[hpl] at ho6 hs6 ⊢
 obtain⟨g6,rfl,hg6b,hg6r,_,_⟩:=ho6.headAt (hpl 0) (i:=0) (by omega)
 have hne4:(Value.slice a4 m c4).ownBlock≠some g6:=fun e=>by
  have h1:=HO4l.out _ e
  rcases hs6 g6 rfl with h|h
  ·omega
  ·have:=HE5.out.size
   have:=(HO45.out.lt _ e).2
   omega
 have HE6:=Lib.hid (HE5.out.grown hg6 (fun k hk=>by injection hk with hk;subst hk;exact⟨hg5b,hg5r⟩))
 have HO46:=Lib.hid (HO45.out.kept hg6 (Or.inr (fun e=>by have:=HO4l.out _ e;omega)))
 have HO6:=Lib.hid ho6
 have HNe4:=Lib.hid hne4
 clear hz hN hpl ho6 hg6 hs6 hne4 HO5 HE5 HO45
 go_wp2_with fail
 go_loopg [31] m (fun g v31 wr=>∃ i:Nat,i≤m∧m-i≤g∧v31=.int .i64 (i:Int)∧Ev R w2 R wr∧OwnI R w2.heap.size 3 wr (.slice (some ⟨g6,0,none⟩) N c6) (toI (putG s O i))∧OwnI R w2.heap.size 3 wr (.slice a4 m c4) (toI O))
 case atStart=>exact⟨0,Nat.zero_le _,by omega,rfl,HE6.out,HO6.out,HO46.out⟩
 case round=>
  clear HE6 HO6 HO46
  obtain⟨i,him,hg,rfl,hev,ho,hof⟩:=hrel
  have HE:=Lib.hid hev
  have HO:=Lib.hid ho
  have HOf:=Lib.hid hof
  clear hev ho hof
  by_cases hi:i<m
  ·have hnO:(toI O).length=m:=by rw[toI_length,HM.out]
   obtain⟨pi,hpi⟩:∃ x,(i+m-1) % m=x:=⟨_,rfl⟩
   have hpim:pi<m:=by rw[←hpi];exact Nat.mod_lt _ (by omega)
   obtain⟨g4,rfl,_,_,k1,_⟩:=HOf.out.headAt hnO hi
   obtain⟨g',e',_,_,k2,_⟩:=HOf.out.headAt hnO hpim
   cases e'
   rw[toI_nth] at k1 k2
   have hpr:=HPr.out i (by rw[HM.out];exact hi)
   rw[HM.out,hpi] at hpr
   obtain⟨x,hx⟩:∃ x,at' O i=x:=⟨_,rfl⟩
   obtain⟨y,hy⟩:∃ x,at' O pi=x:=⟨_,rfl⟩
   have hyn:y<n:=by rw[←hy,←HN.out];exact HLt.out _ (by rw[at'_eq (by rw[HM.out];exact hpim)];exact List.getElem_mem _)
   rw[hx] at k1
   rw[hy] at k2 hpr
   rw[phiL_at (by rw[HN.out];exact hyn)] at hpr
   have hbn:=xor_one_lt (n:=n) (by rw[←HN.out];exact HEv.out) hyn
   obtain⟨bf,hbf⟩:∃ b,y ^^^ 1=b:=⟨_,rfl⟩
   rw[hbf] at hpr hbn
   have hstep:=putG_step HS.out HNd.out (i:=i) (bf:=bf) (by rw[HM.out];exact hi) (by rw[HN.out];exact hbn) hpr
   rw[HM.out,HN.out,hpi,hx] at hstep
   have hm2:=HM2.out
   have hNe:=HNe.out
   obtain⟨i2,hi2⟩:∃ x,2*i=x:=⟨_,rfl⟩
   obtain⟨A,hA⟩:∃ x,n+i2=x:=⟨_,rfl⟩
   obtain⟨A1,hA1⟩:∃ x,A+1=x:=⟨_,rfl⟩
   obtain⟨p2,hp2⟩:∃ x,2*pi=x:=⟨_,rfl⟩
   obtain⟨q,hq⟩:∃ x,n+p2=x:=⟨_,rfl⟩
   obtain⟨q1,hq1⟩:∃ x,q+1=x:=⟨_,rfl⟩
   rw[hi2,hA,hA1,hp2,hq,hq1] at hstep
   obtain⟨im,him2⟩:∃ x,i+m=x:=⟨_,rfl⟩
   obtain⟨im1,him1⟩:∃ x,im-1=x:=⟨_,rfl⟩
   rw[him2,him1] at hpi
   have w1':IntKind.i64.wrap (2*(i:Int))=(i2:Int):=by rw[show 2*(i:Int)=(i2:Int) by omega];exact IntWalk.i64_in _ (by omega)
   have w2':IntKind.i64.wrap ((n:Int)+(i2:Int))=(A:Int):=by rw[show (n:Int)+(i2:Int)=(A:Int) by omega];exact IntWalk.i64_in _ (by omega)
   have w3':IntKind.i64.wrap ((i:Int)+(m:Int))=(im:Int):=by rw[show (i:Int)+(m:Int)=(im:Int) by omega];exact IntWalk.i64_in _ (by omega)
   have w4':IntKind.i64.wrap ((im:Int)-1)=(im1:Int):=by rw[show (im:Int)-1=(im1:Int) by omega];exact IntWalk.i64_in _ (by omega)
   have w5':(im1:Int) % (m:Int)=(pi:Int):=by rw[←hpi];simp
   have w6':IntKind.i64.wrap ((A:Int)+1)=(A1:Int):=by rw[show (A:Int)+1=(A1:Int) by omega];exact IntWalk.i64_in _ (by omega)
   have w7':IntKind.i64.wrap (2*(pi:Int))=(p2:Int):=by rw[show 2*(pi:Int)=(p2:Int) by omega];exact IntWalk.i64_in _ (by omega)
   have w8':IntKind.i64.wrap ((n:Int)+(p2:Int))=(q:Int):=by rw[show (n:Int)+(p2:Int)=(q:Int) by omega];exact IntWalk.i64_in _ (by omega)
   have w9':IntKind.i64.wrap ((q:Int)+1)=(q1:Int):=by rw[show (q:Int)+1=(q1:Int) by omega];exact IntWalk.i64_in _ (by omega)
   have hmz:(m:Int)≠0:=by omega
   have hr1:(i:Int)<(m:Int):=by omega
   have hr2:(pi:Int)<(m:Int):=by omega
   have hbN:bf<N:=by omega
   have hAN:A<N:=by omega
   have hA1N:A1<N:=by omega
   have hr3:(bf:Int)<(N:Int):=by omega
   have hr4:(A:Int)<(N:Int):=by omega
   have hr5:(A1:Int)<(N:Int):=by omega
   obtain⟨_,e1,_,_,s1,f1⟩:=HO.out.headAt (HPl.out i) hbN
   cases e1
   have hp1:=HO.out.put (HPl.out i) bf hbN ((A:Nat):Int)
   obtain⟨_,e1,_,_,s2,f2⟩:=hp1.headAt (by rw[List.length_set];exact HPl.out i) hAN
   cases e1
   have hp2':=hp1.put (by rw[List.length_set];exact HPl.out i) A hAN ((x:Nat):Int)
   obtain⟨_,e1,_,_,s3,f3⟩:=hp2'.headAt (by rw[List.length_set,List.length_set];exact HPl.out i) hA1N
   cases e1
   have hp3:=hp2'.put (by rw[List.length_set,List.length_set];exact HPl.out i) A1 hA1N ((q1:Nat):Int)
   have hst:((((toI (putG s O i)).set bf ((A:Nat):Int)).set A ((x:Nat):Int)).set A1 ((q1:Nat):Int))=toI (putG s O (i+1)):=by rw[←hstep];simp[toI,List.map_set]
   rw[hst] at hp3
   have HO3:=Lib.hid hp3
   have HE3:=Lib.hid (((HE.out.setCell (p:=⟨g6,bf,none⟩) hg6b hg6r (.int .i64 (A:Int))).setCell (p:=⟨g6,A,none⟩) hg6b hg6r (.int .i64 (x:Int))).setCell (p:=⟨g6,A1,none⟩) hg6b hg6r (.int .i64 (q1:Int)))
   have o1:=HOf.out.setCell (a:=⟨g6,bf,none⟩) HNe4.out (.int .i64 (A:Int))
   have o2:=o1.setCell (a:=⟨g6,A,none⟩) HNe4.out (.int .i64 (x:Int))
   have o3:=o2.setCell (a:=⟨g6,A1,none⟩) HNe4.out (.int .i64 (q1:Int))
   have HOf3:=Lib.hid o3
   have hma:=rmate_any wr y (by omega)
   rw[hbf] at hma
   have HMa:=Lib.hid hma
   clear hstep hst hp1 hp2' hp3 o1 o2 o3 hma hbf hx hy hpr hpi him2 him1 hi2 hA hA1 hp2 hq hq1 hm2 hNe HO HE HOf hnO
   go_wp2_with fail
   refine HMa.out.mono ?_
   rintro z w' ⟨rfl,rfl⟩
   go_wp2_with fail
   go_roundg (m-(i+1))
   case measure=>omega
   case rel=>exact⟨i+1,by omega,by omega,by go_num,HE3.out,HO3.out,HOf3.out⟩
  ·obtain rfl:i=m:=by omega
   have hall:=putG_all s O
   rw[HM.out] at hall
   have ho:=HO.out
   rw[hall] at ho
   have HOz:=Lib.hid ho
   obtain⟨_,x1,_,_⟩:=HB1.out _ HE.out
   obtain⟨yb,yn⟩:=HB2.out _ HE.out
   obtain⟨y0,y1,y2,yf⟩:=boxC_cells yb
   have hf0:=yf 0
   have hf1:=yf 1
   have hf2:=yf 2
   have HYb:=Lib.hid yb
   have HYn:=Lib.hid yn
   clear hall ho yb yn yf HO HOf
   go_wp2_with fail
   have hlen:(starC s O).length=N:=by rw[starC_length,HN.out,HM.out];have:=HM2.out;have:=HNe.out;omega
   have hb3:(((wr.setCell ⟨w.heap.size+1,0,none⟩ (.slice (some ⟨g6,0,none⟩) N c6)).setCell ⟨w.heap.size+1,1,none⟩ (.int .i64 root)).setCell ⟨w.heap.size+1,2,none⟩ (.int .i64 0)).heap[w.heap.size+1]?=some (.cells #[.slice (some ⟨g6,0,none⟩) N c6,.int .i64 root,.int .i64 0] 27 (0,0)):=heap_setCell_same _ _ 2 _ _ _ (heap_setCell_same _ _ 1 _ _ _ (heap_setCell_same _ _ 0 _ _ _ HYb.out))
   obtain⟨u0,u1,u2,_⟩:=boxC_cells hb3
   refine bodyPost_ret (v:=refV (.slice (some ⟨g6,0,none⟩) N c6) root 0) ?_ rfl ⟨some ⟨g6,0,none⟩,c6,?_,?_,?_⟩
   ·simp[results,Tryz.results27,go_sem,u0,u1,u2,refV]
   ·rw[HOe.out,hlen]
   ·exact (((HE2.out.trans HE.out).setCell (p:=⟨w.heap.size+1,0,none⟩) (by simp) HYn.out _).setCell (p:=⟨w.heap.size+1,1,none⟩) (by simp) HYn.out _).setCell (p:=⟨w.heap.size+1,2,none⟩) (by simp) HYn.out _
   ·rw[HOe.out,hlen]
    have hne:∀ (o:Nat),(Value.slice (some ⟨g6,0,none⟩) N c6).ownBlock≠some (⟨w.heap.size+1,o,none⟩:Addr).block:=fun o e=>by
     have h1:=(HOz.out.lt _ e).1
     have:=HSz2.out
     simp at h1
     omega
    exact (((HOz.out.mono (by have:=HSz2.out;omega)).setCell (hne 0) _).setCell (hne 1) _).setCell (hne 2) _
end
end Go.Proofs.YtgphnkkdmlohlaaGreatDoor
