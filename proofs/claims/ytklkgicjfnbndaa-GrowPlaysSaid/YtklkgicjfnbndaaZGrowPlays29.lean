/- A star in a face: the list is a turn again. -/
import Derived.Test.YtklkgicjfnbndaaZGrowPlays26
import Derived.Test.YtklkgicjfnbndaaZGrowPlays07
import Derived.Test.YtklkgicjfnbndaaZGrowPlays28
import Derived.Test.YtklkgicjfnbndaaZGrowPlays23
import Derived.Test.YtklkgicjfnbndaaZGrowPlays27
namespace Go.Proofs.Ytklkgicjfnbndaa
section
set_option linter.unusedVariables false
theorem nodup_inj {α:Type} {l:List α} (h:l.Nodup) {i j:Nat} (hi:i<l.length) (hj:j<l.length) (e:l[i]=l[j]):i=j:=by
 rw[List.nodup_iff_pairwise_ne,List.pairwise_iff_getElem] at h
 rcases Nat.lt_trichotomy i j with h1|h1|h1
 ·exact absurd e (h i j hi hj h1)
 ·exact h1
 ·exact absurd e.symm (h j i hj hi h1)
def starF (s O:List Nat) (j:Nat):Nat:=
 if j<s.length then (if at' s j∈O then s.length+2*O.idxOf (at' s j) else at' s j)
 else if (j-s.length) % 2=0 then at' O ((j-s.length) / 2)
 else s.length+2*(((j-s.length) / 2+O.length-1) % O.length)+1
def starC (s O:List Nat):List Nat:=(List.range (s.length+2*O.length)).map (starF s O)
theorem starC_length (s O:List Nat):(starC s O).length=s.length+2*O.length:=by simp[starC]
theorem starC_at {s O:List Nat} {j:Nat} (h:j<s.length+2*O.length):at' (starC s O) j=starF s O j:=by simp[starC,at',h]
section
variable {s O : List Nat} (hs : IsPerm s) (hO : O.Nodup) (hlt : ∀ x, x ∈ O → x < s.length) (hm : 0 < O.length)
include hs hO hlt hm
end
end
section
set_option linter.unusedVariables false
theorem mem_take_succ {O:List Nat} {i x:Nat} (hi:i<O.length):x∈O.take (i+1)↔x∈O.take i∨x=at' O i:=by
 rw[List.take_succ_eq_append_getElem hi,List.mem_append,List.mem_singleton,at'_eq hi]
theorem not_mem_take {O:List Nat} (hO:O.Nodup) {i:Nat} (hi:i<O.length):at' O i∉O.take i:=fun h=>by
 obtain⟨k,hk,e⟩:=List.getElem_of_mem h
 rw[List.getElem_take] at e
 rw[List.length_take] at hk
 have:=nodup_inj hO (i:=k) (j:=i) (by omega) hi (by rw[e,at'_eq hi])
 omega
theorem idx_at {O:List Nat} (hO:O.Nodup) {i:Nat} (hi:i<O.length):O.idxOf (at' O i)=i:=by
 have hm:at' O i∈O:=by rw[at'_eq hi];exact List.getElem_mem hi
 have h:=List.idxOf_lt_length_of_mem hm
 exact nodup_inj hO h hi (by rw[List.getElem_idxOf h,at'_eq hi])
def putF (s O:List Nat) (i j:Nat):Nat:=
 if j<s.length then (if at' s j∈O.take i then s.length+2*O.idxOf (at' s j) else at' s j)
 else if (j-s.length) / 2<i then starF s O j else 0
def putG (s O:List Nat) (i:Nat):List Nat:=(List.range (s.length+2*O.length)).map (putF s O i)
theorem putG_length (s O:List Nat) (i:Nat):(putG s O i).length=s.length+2*O.length:=by simp[putG]
theorem putG_zero (s O:List Nat):putG s O 0=s ++ List.replicate (2*O.length) 0:=by
 refine List.ext_getElem (by simp[putG]) fun j h1 h2=>?_
 have hj:j<s.length+2*O.length:=by simpa [putG] using h1
 simp only[putG,List.getElem_map,List.getElem_range,putF]
 by_cases hs:j<s.length
 ·rw[if_pos hs,if_neg (by simp),List.getElem_append_left hs,at'_eq hs]
 ·rw[if_neg hs,if_neg (by omega),List.getElem_append_right (by omega)]
  simp
theorem putG_all (s O:List Nat):putG s O O.length=starC s O:=by
 refine List.ext_getElem (by rw[putG_length,starC_length]) fun j h1 h2=>?_
 have hj:j<s.length+2*O.length:=by simpa [putG] using h1
 simp only[putG,starC,List.getElem_map,List.getElem_range,putF]
 by_cases hs:j<s.length
 ·rw[if_pos hs,List.take_length]
  unfold starF
  rw[if_pos hs]
 ·rw[if_neg hs,if_pos (by omega)]
theorem putG_step {s O:List Nat} (hs:IsPerm s) (hO:O.Nodup) {i bf:Nat} (hi:i<O.length) (hb:bf<s.length) (hbs:at' s bf=at' O i):
  (((putG s O i).set bf (s.length+2*i)).set (s.length+2*i) (at' O i)).set (s.length+2*i+1) (s.length+2*((i+O.length-1) % O.length)+1)=putG s O (i+1):=by
 refine List.ext_getElem (by simp[putG]) fun j h1 h2=>?_
 have hj:j<s.length+2*O.length:=by simpa [putG] using h2
 rw[List.getElem_set,List.getElem_set,List.getElem_set]
 simp only[putG,List.getElem_map,List.getElem_range,putF]
 by_cases hjs:j<s.length
 ·rw[if_neg (by omega),if_neg (by omega),if_pos hjs,if_pos hjs]
  by_cases e:bf=j
  ·subst e
   rw[if_pos rfl,hbs,if_pos ((mem_take_succ hi).2 (Or.inr rfl)),idx_at hO hi]
  ·rw[if_neg e]
   have hne:at' s j≠at' O i:=fun h=>e (hs.inj hb hjs (by rw[hbs,h]))
   by_cases hm:at' s j∈O.take i
   ·rw[if_pos hm,if_pos ((mem_take_succ hi).2 (Or.inl hm))]
   ·rw[if_neg hm,if_neg (fun h=>((mem_take_succ hi).1 h).elim hm hne)]
 ·rw[if_neg hjs,if_neg hjs]
  by_cases e1:s.length+2*i+1=j
  ·rw[if_pos e1,if_pos (by omega)]
   subst e1
   unfold starF
   rw[if_neg hjs,if_neg (by omega),show (s.length+2*i+1-s.length) / 2=i by omega]
  ·rw[if_neg e1]
   by_cases e2:s.length+2*i=j
   ·rw[if_pos e2,if_pos (by omega)]
    subst e2
    unfold starF
    rw[if_neg hjs,if_pos (by omega),show (s.length+2*i-s.length) / 2=i by omega]
   ·rw[if_neg e2,if_neg (by omega)]
    by_cases h3:(j-s.length) / 2<i
    ·rw[if_pos h3,if_pos (by omega)]
    ·rw[if_neg h3,if_neg (by omega)]
def stF (s O:List Nat) (i j:Nat):Nat:=
 if j<s.length then (if at' s j∈O.take i then s.length+2*O.idxOf (at' s j) else at' s j)
 else if (j-s.length) % 2=0 then at' O ((j-s.length) / 2)
 else if (j-s.length) / 2=0 then s.length+2*(i-1)+1 else s.length+2*((j-s.length) / 2-1)+1
theorem stF_old {s O:List Nat} {i j:Nat} (h:j<s.length):stF s O i j=if at' s j∈O.take i then s.length+2*O.idxOf (at' s j) else at' s j:=by
 unfold stF;rw[if_pos h]
theorem stF_even {s O:List Nat} {i j:Nat} (h:¬ j<s.length) (h2:(j-s.length) % 2=0):stF s O i j=at' O ((j-s.length) / 2):=by
 unfold stF;rw[if_neg h,if_pos h2]
theorem stF_hub0 {s O:List Nat} {i j:Nat} (h:¬ j<s.length) (h2:¬ (j-s.length) % 2=0) (h3:(j-s.length) / 2=0):stF s O i j=s.length+2*(i-1)+1:=by
 unfold stF;rw[if_neg h,if_neg h2,if_pos h3]
theorem stF_hub {s O:List Nat} {i j:Nat} (h:¬ j<s.length) (h2:¬ (j-s.length) % 2=0) (h3:¬ (j-s.length) / 2=0):stF s O i j=s.length+2*((j-s.length) / 2-1)+1:=by
 unfold stF;rw[if_neg h,if_neg h2,if_neg h3]
def stG (s O:List Nat) (i:Nat):List Nat:=(List.range (s.length+2*i)).map (stF s O i)
theorem stG_length (s O:List Nat) (i:Nat):(stG s O i).length=s.length+2*i:=by simp[stG]
theorem stG_all {s O:List Nat} (hm:0<O.length):stG s O O.length=starC s O:=by
 refine List.ext_getElem (by rw[stG_length,starC_length]) fun j h1 h2=>?_
 have hj:j<s.length+2*O.length:=by simpa [stG] using h1
 simp only[stG,starC,List.getElem_map,List.getElem_range,stF,starF]
 by_cases hs:j<s.length
 ·rw[if_pos hs,if_pos hs,List.take_length]
 ·rw[if_neg hs,if_neg hs]
  split
  ·rfl
  ·obtain⟨k,hk⟩:∃ k,(j-s.length) / 2=k:=⟨_,rfl⟩
   rw[hk]
   by_cases h0:k=0
   ·rw[if_pos h0,h0,Nat.zero_add,Nat.mod_eq_of_lt (by omega)]
   ·rw[if_neg h0,show k+O.length-1=(k-1)+O.length by omega,Nat.add_mod_right,Nat.mod_eq_of_lt (by omega)]
theorem starGo_eq {s O:List Nat} (hs:IsPerm s) (hO:O.Nodup) (hlt:∀ x,x∈O→x<s.length):∀ i,i≤O.length→starGo s O i=stG s O i
 | 0,_=>by
  refine List.ext_getElem (by rw[stG_length];rfl) fun j h1 h2=>?_
  have hj:j<s.length:=h1
  simp only[stG,List.getElem_map,List.getElem_range,stF]
  rw[if_pos hj,if_neg (by simp),at'_eq hj]
  rfl
 | i+1,hi=>by
  have ih:=starGo_eq hs hO hlt i (by omega)
  have hil:i<O.length:=by omega
  have hx:=hlt (at' O i) (by rw[at'_eq hil];exact List.getElem_mem hil)
  obtain⟨hb1,hb2⟩:=at_invL hs hx
  obtain⟨bf,hbf⟩:∃ b,at' (invL s) (at' O i)=b:=⟨_,rfl⟩
  rw[hbf] at hb1 hb2
  have hstep:starGo s O (i+1)=if i=0 then behindL (starGo s O i ++ [s.length+2*i,s.length+2*i+1]) (s.length+2*i) bf else ((behindL (starGo s O i ++ [s.length+2*i,s.length+2*i+1]) (s.length+2*i) bf).set (s.length+2*i+1) (s.length+2*i-1)).set (s.length+1) (s.length+2*i+1):=by
   simp only[starGo,hbf]
  have hgl:(stG s O i ++ [s.length+2*i,s.length+2*i+1]).length=s.length+2*i+2:=by simp[stG_length]
  have hat:at' (stG s O i ++ [s.length+2*i,s.length+2*i+1]) bf=at' O i:=by
   rw[at'_eq (by rw[hgl];omega),List.getElem_append_left (by rw[stG_length];omega)]
   simp only[stG,List.getElem_map,List.getElem_range,stF]
   rw[if_pos hb2,hb1,if_neg (not_mem_take hO hil)]
  have hbl:behindL (stG s O i ++ [s.length+2*i,s.length+2*i+1]) (s.length+2*i) bf=((stG s O i ++ [s.length+2*i,s.length+2*i+1]).set (s.length+2*i) (at' O i)).set bf (s.length+2*i):=by
   unfold behindL;rw[hat]
  rw[hstep,ih,hbl]
  have val:∀ j (h:j<(((stG s O i ++ [s.length+2*i,s.length+2*i+1]).set (s.length+2*i) (at' O i)).set bf (s.length+2*i)).length),(((stG s O i ++ [s.length+2*i,s.length+2*i+1]).set (s.length+2*i) (at' O i)).set bf (s.length+2*i))[j] =
    if bf=j then s.length+2*i else if s.length+2*i=j then at' O i else if j<s.length+2*i then stF s O i j else s.length+2*i+1:=fun j h=>by
   rw[List.getElem_set,List.getElem_set]
   by_cases e1:bf=j
   ·rw[if_pos e1,if_pos e1]
   ·rw[if_neg e1,if_neg e1]
    by_cases e2:s.length+2*i=j
    ·rw[if_pos e2,if_pos e2]
    ·rw[if_neg e2,if_neg e2]
     by_cases e3:j<s.length+2*i
     ·rw[if_pos e3,List.getElem_append_left (by rw[stG_length];exact e3)]
      simp[stG]
     ·rw[if_neg e3,List.getElem_append_right (by rw[stG_length];omega)]
      simp[stG_length] at h ⊢
      have:j-(s.length+2*i)=1:=by omega
      simp[this]
  have old:∀ j,j<s.length→(if bf=j then s.length+2*i else if at' s j∈O.take i then s.length+2*O.idxOf (at' s j) else at' s j)=if at' s j∈O.take (i+1) then s.length+2*O.idxOf (at' s j) else at' s j:=fun j hj=>by
   by_cases e:bf=j
   ·subst e
    rw[if_pos rfl,hb1,if_pos ((mem_take_succ hil).2 (Or.inr rfl)),idx_at hO hil]
   ·rw[if_neg e]
    have hne:at' s j≠at' O i:=fun h=>e (hs.inj hb2 hj (by rw[hb1,h]))
    by_cases hm:at' s j∈O.take i
    ·rw[if_pos hm,if_pos ((mem_take_succ hil).2 (Or.inl hm))]
    ·rw[if_neg hm,if_neg (fun h=>((mem_take_succ hil).1 h).elim hm hne)]
  have cmp:∀ j,j<s.length+2*i+2→(if bf=j then s.length+2*i else if s.length+2*i=j then at' O i else if j<s.length+2*i then stF s O i j else s.length+2*i+1) =
    if j<s.length then stF s O (i+1) j else if (j-s.length) % 2=0 then stF s O (i+1) j else if j<s.length+2*i then stF s O i j else s.length+2*i+1:=fun j hj=>by
   by_cases hjs:j<s.length
   ·rw[if_pos hjs,stF_old (i:=i+1) hjs,←old j hjs,stF_old (i:=i) hjs]
    by_cases e:bf=j
    ·rw[if_pos e,if_pos e]
    ·rw[if_neg e,if_neg e,if_neg (by omega),if_pos (by omega)]
   ·rw[if_neg hjs,if_neg (by omega)]
    by_cases hev:(j-s.length) % 2=0
    ·rw[if_pos hev,stF_even (i:=i+1) hjs hev]
     by_cases e2:s.length+2*i=j
     ·rw[if_pos e2,show (j-s.length) / 2=i by omega]
     ·rw[if_neg e2,if_pos (by omega),stF_even (i:=i) hjs hev]
    ·rw[if_neg hev,if_neg (by omega)]
  by_cases h0:i=0
  ·rw[if_pos h0]
   refine List.ext_getElem (by simp[stG_length];omega) fun j h1 h2=>?_
   have hj:j<s.length+2*(i+1):=by rw[stG_length] at h2;exact h2
   rw[val j h1,cmp j (by omega)]
   simp only[stG,List.getElem_map,List.getElem_range]
   by_cases hjs:j<s.length
   ·rw[if_pos hjs]
   ·rw[if_neg hjs]
    by_cases hev:(j-s.length) % 2=0
    ·rw[if_pos hev]
    ·rw[if_neg hev,if_neg (by omega),stF_hub0 hjs hev (by omega)]
     omega
  ·rw[if_neg h0]
   refine List.ext_getElem (by simp[stG_length];omega) fun j h1 h2=>?_
   have hj:j<s.length+2*(i+1):=by rw[stG_length] at h2;exact h2
   rw[List.getElem_set,List.getElem_set,val j (by simpa using h1),cmp j (by omega)]
   simp only[stG,List.getElem_map,List.getElem_range]
   by_cases hjs:j<s.length
   ·rw[if_neg (by omega),if_neg (by omega),if_pos hjs]
   ·by_cases hev:(j-s.length) % 2=0
    ·rw[if_neg (by omega),if_neg (by omega),if_neg hjs,if_pos hev]
    ·by_cases e1:s.length+1=j
     ·rw[if_pos e1,stF_hub0 (i:=i+1) hjs hev (by omega)]
      omega
     ·rw[if_neg e1,stF_hub (i:=i+1) hjs hev (by omega)]
      by_cases e2:s.length+2*i+1=j
      ·rw[if_pos e2]
       omega
      ·rw[if_neg e2,if_neg hjs,if_neg hev,if_pos (by omega),stF_hub (i:=i) hjs hev (by omega)]
end
section
open Go.RowKit
set_option linter.unusedVariables false
def listsL (s:List Nat):Nat→List (List Nat)
 | 0=>[]
 | i+1=>if nth (namesL s) i=((listsL s i).length:Int) then listsL s i ++ [orbitL s i] else listsL s i
theorem listsL_len (s:List Nat):∀ i,(listsL s i).length≤i
 | 0=>Nat.le_refl _
 | i+1=>by
  have:=listsL_len s i
  unfold listsL
  split
  ·rw[List.length_append,List.length_singleton];omega
  ·omega
set_option maxRecDepth 100000 in
set_option maxHeartbeats 2000000 in
theorem r23lists_any (R:Reg) (w:World) (hI:Inv R w) (v:Value) (s:List Nat) (root lone:Int) (hv:FreeI R w v (toI s)) (hS:IsPerm s) (hn:s.length≤100000):
  Calls Try.prog 36 #[refV v root lone] w (RetLL R w (listsL s s.length)):=by
 obtain⟨a0,c0,rfl,_⟩:=hv.open
 rw[toI_length] at hv
 unfold refV
 have HNm:=Lib.hid (fun w' (he:Ev R w R w')=>rnames_any R w' he.inv _ s (hv.ev he) hS (by omega))
 have HOr:=Lib.hid (fun w' (he:Ev R w R w') d (hd:d<s.length)=>rorbit_any R w' he.inv _ s (hv.ev he) hS (by omega) d hd)
 have he1:Ev R w R (w.alloc (.cells #[.slice a0 (toI s).length c0,.int .i64 root,.int .i64 lone] 27)):=(Ev.refl hI).alloc _
 have hn1:R w.heap.size=none:=hI.none_of_ge (Nat.le_refl _)
 have hB1:=fun w' (h:Ev R (w.alloc (.cells #[.slice a0 (toI s).length c0,.int .i64 root,.int .i64 lone] 27)) R w')=>h.boxC3 (heap_alloc_new w _) hn1
 have hnl:(namesL s).length=s.length:=(namesGo_inv hS s.length (Nat.le_refl _)).length
 obtain⟨N,hN⟩:∃ N,namesL s=N:=⟨_,rfl⟩
 obtain⟨n,hnn⟩:∃ n,s.length=n:=⟨_,rfl⟩
 rw[toI_length] at he1 hB1 ⊢
 rw[hN] at HNm hnl
 rw[hnn] at HNm HOr he1 hB1 hnl hn ⊢
 have HNe:=Lib.hid hN
 have HNl:=Lib.hid hnl
 have HNn:=Lib.hid hnn
 clear hI hv hS hN hnn hnl
 go_enter Try.func36,Try.ntmps36
 go_upto_region 1 with fail
 try simp only[toI_length,HNn.out]
 obtain⟨wa,hwa⟩:∃ wa,w.alloc (.cells #[.slice a0 n c0,.int .i64 root,.int .i64 lone] 27)=wa:=⟨_,rfl⟩
 rw[hwa] at he1 hB1 ⊢
 have HB1:=Lib.hid (fun w' (h:Ev R wa R w')=>boxC_cells (hB1 w' h).1)
 have HEa:=Lib.hid he1
 have HIa:=Lib.hid he1.inv
 obtain⟨x0,x1,x2,_⟩:=HB1.out _ (Ev.refl he1.inv)
 clear he1 hB1 hwa hn1
 go_wp2_with fail
 refine (HNm.out _ HEa.out).mono ?_
 rintro z w2 ⟨v2,rfl,he2,ho2⟩
 obtain⟨a2,c2,rfl,_⟩:=ho2.ints.open
 rw[HNl.out] at ho2 ⊢
 have HE2:=Lib.hid he2
 have HO2:=Lib.hid ho2
 clear he2 ho2 x0 x1 x2
 go_wp2_with fail
 go_loopg [3,12] n (fun g v3 v12 wr=>∃ (i:Nat),i≤n∧n-i≤g∧v12=.int .i64 (i:Int)∧Ev R w2 R wr∧RowsAt R w2.heap.size wr v3 (listsL s i))
 case atStart=>exact⟨0,Nat.zero_le _,by omega,rfl,Ev.refl HE2.out.inv,none,0,[],rfl,OwnV.nil _ _ _ _ _,RowsLL.nil _ _ _⟩
 case round=>
  obtain⟨i,hin,hg,rfl,hev,hra⟩:=hrel
  have HE:=Lib.hid hev
  obtain⟨a7,c7,vs7,rfl,hov7,hrw7⟩:=hra
  by_cases hi:i<n
  ·obtain⟨l,hl⟩:∃ l,(listsL s i).length=l:=⟨_,rfl⟩
   have hli:l≤i:=by rw[←hl];exact listsL_len s i
   rw[hl] at hov7 hrw7 ⊢
   have HOv7:=Lib.hid hov7
   have HRw7:=Lib.hid hrw7
   have HL:=Lib.hid hl
   obtain⟨g2,rfl,_,_,hc,_⟩:=(HO2.out.ev hev).headAt HNl.out hi
   obtain⟨k,hk⟩:∃ k,nth N i=k:=⟨_,rfl⟩
   rw[hk] at hc
   have hst:listsL s (i+1)=if k=(l:Int) then listsL s i ++ [orbitL s i] else listsL s i:=by
    show (if nth (namesL s) i=((listsL s i).length:Int) then _ else _)=_
    rw[HNe.out,hk,hl]
   have hir:(i:Int)<(n:Int):=by omega
   clear hov7 hrw7 hl hev hk
   by_cases hkl:k=(l:Int)
   ·rw[if_pos hkl] at hst
    have hbe:(k == (l:Int))=true:=by simp[hkl]
    have HSt:=Lib.hid hst
    obtain⟨x0,x1,x2,_⟩:=HB1.out _ (HE2.out.trans HE.out)
    have hor:=HOr.out _ (HEa.out.trans (HE2.out.trans HE.out)) i hi
    have HOrb:=Lib.hid hor
    clear hst hkl hor
    go_wp2_with fail
    refine HOrb.out.mono ?_
    rintro z w4 ⟨v4,rfl,he4,ho4⟩
    obtain⟨a4,c4,rfl,_⟩:=ho4.ints.open
    obtain⟨NY,hNY⟩:∃ N,(orbitL s i).length=N:=⟨_,rfl⟩
    rw[toI_length,hNY] at ho4 ⊢
    have hrow:=rowOk_new ho4 hNY HOv7.out
    have hE8:=(Ev.refl he4.inv).alloc (.cells #[.slice a4 NY c4] 25)
    have HOv8:=Lib.hid ((HOv7.out.ev he4).alloc (.cells #[.slice a4 NY c4] 25))
    have HRw8:=Lib.hid ((HRw7.out.ev he4).ev hE8)
    have HRo8:=Lib.hid (hrow.ev hE8)
    have HE8:=Lib.hid ((HE.out.trans he4).alloc (.cells #[.slice a4 NY c4] 25))
    clear ho4 hrow hE8 he4 hNY x0 x1 x2 HOrb
    go_wp2_with (at_builtin;refine wpList_app_row 59 25 1 24 nilS Try.underlying59 islice_info rfl (by decide) (by decide) rfl _ _ rfl HOv8.out rfl ⟨w4.heap.size,0,none⟩ 1 1 [.slice a4 NY c4] rfl ?z0 ?z1 ?z2 ?z3 ?z4 ?z5 ?_)
    try (case z0=>first|rfl|simp)
    case z1=>exact one_cell _ _
    case z2=>exact one_one _ _ _
    case z3=>omega
    case z4=>exact HE8.out.size
    case z5=>exact fun q hq=>HE8.out.inv.none_of_ge hq
    intro v9 w9 ho9 hg9 hs9
    have hra9:=rows_next (xss:=listsL s i) HL.out.symm HRw8.out HRo8.out ho9 hg9 (fun q hq=>(hs9 q hq).imp id (fun h=>by first|exact h|simpa using h))
    rw[←HSt.out] at hra9
    have HRa9:=Lib.hid hra9
    have HE9:=Lib.hid (HE8.out.appV HOv8.out (Nat.le_refl _) hg9)
    clear hra9 ho9 hg9 hs9 HE8 HOv8 HRw8 HRo8
    go_wp2_with fail
    go_roundg (n-(i+1))
    case measure=>omega
    case rel=>exact⟨i+1,by omega,by omega,by go_num,HE9.out,HRa9.out⟩
   ·rw[if_neg hkl] at hst
    have hbe:(k == (l:Int))=false:=beq_eq_false_iff_ne.2 hkl
    have HSt:=Lib.hid hst
    clear hst hkl
    go_wp2_with fail
    go_roundg (n-(i+1))
    case measure=>omega
    case rel=>exact⟨i+1,by omega,by omega,by go_num,HE.out,by rw[HSt.out];exact⟨a7,c7,vs7,by rw[HL.out],by rw[HL.out];exact HOv7.out,by rw[HL.out];exact HRw7.out⟩⟩
  ·obtain rfl:i=n:=by omega
   have HH:=Lib.hid (show Ev R w R wr∧_∧_ from⟨HEa.out.trans (HE2.out.trans hev),hov7.mono (HEa.out.trans HE2.out).size,hrw7⟩)
   clear hov7 hrw7 hev
   go_wp2_with fail
   go_ret
   obtain⟨hev,hov7,hrw7⟩:=HH.out
   exact⟨a7,c7,vs7,rfl,hev,hov7,hrw7⟩
end
section
open Go.RowKit
set_option linter.unusedVariables false
def layT (v S:List Nat):Nat→List Nat
 | 0=>S
 | i+1=>(layT v S i).set (at' v i) (at' v (nextI v.length i))
def layA (xss:List (List Nat)) (S:List Nat):List Nat:=xss.foldl (fun S v=>layT v S v.length) S
theorem layT_length (v S:List Nat):∀ i,(layT v S i).length=S.length
 | 0=>rfl
 | i+1=>by unfold layT;rw[List.length_set,layT_length v S i]
theorem layA_take {xss:List (List Nat)} {S:List Nat} {k:Nat} (hk:k<xss.length):layA (xss.take (k+1)) S=layT (xss.getD k []) (layA (xss.take k) S) (xss.getD k []).length:=by
 unfold layA
 rw[List.take_succ_eq_append_getElem hk,List.foldl_append]
 simp[List.getD,hk]
def lensTo (xss:List (List Nat)) (i:Nat):Nat:=((xss.take i).map List.length).sum
theorem lensTo_succ {xss:List (List Nat)} {i:Nat} (hi:i<xss.length):lensTo xss (i+1)=lensTo xss i+(xss.getD i []).length:=by
 unfold lensTo
 rw[List.take_succ_eq_append_getElem hi,List.map_append,List.sum_append]
 simp[List.getD,hi]
theorem lensTo_mono {xss:List (List Nat)} {i j:Nat} (h:i≤j) (hj:j≤xss.length):lensTo xss i≤lensTo xss j:=by
 induction j with
 | zero=>
  obtain rfl:i=0:=by omega
  exact Nat.le_refl _
 | succ j ih=>
  by_cases e:i=j+1
  ·rw[e];exact Nat.le_refl _
  ·rw[lensTo_succ (by omega)]
   have:=ih (by omega) (by omega)
   omega
set_option maxRecDepth 100000 in
set_option maxHeartbeats 4000000 in
theorem r23made_any (R:Reg) (w:World) (hI:Inv R w) (B:Nat) (v:Value) (xss:List (List Nat)) (hv:RowsAt R B w v xss) (hsm:RowsSm xss) (n:Nat) (hn:lensTo xss xss.length=n) (hlt:∀ i,i<xss.length→∀ x,x∈xss.getD i []→x<n) (hnb:n≤100000) (root lone:Int):
  Calls Try.prog 40 #[v,.int .i64 root,.int .i64 lone] w (RetMap R w (layA xss (List.replicate n 0)) root lone):=by
 obtain⟨a,c,vs,rfl,hov,hrw⟩:=hv
 obtain⟨hl,hrs⟩:=hsm
 obtain⟨m,hm⟩:∃ m,xss.length=m:=⟨_,rfl⟩
 have HM:=Lib.hid hm
 have HRs:=Lib.hid hrs
 have HLt:=Lib.hid hlt
 have HLn:=Lib.hid hn
 rw[hm] at hov hrw hl ⊢
 have he1:Ev R w R (w.alloc (.cells #[.slice none 0 0,.int .i64 0,.int .i64 0] 27)):=(Ev.refl hI).alloc _
 have hb6:=heap_alloc_new w (.cells #[.slice none 0 0,.int .i64 0,.int .i64 0] 27)
 have hn6:R w.heap.size=none:=hI.none_of_ge (Nat.le_refl _)
 obtain⟨w1,hw1⟩:∃ x,w.alloc (.cells #[.slice none 0 0,.int .i64 0,.int .i64 0] 27)=x:=⟨_,rfl⟩
 have HS1:=Lib.hid (show w1.heap.size=w.heap.size+1 by rw[←hw1];simp)
 rw[hw1] at he1 hb6
 have HB6:=Lib.hid (fun w' (h:Ev R w1 R w')=>h.boxC3 hb6 hn6)
 have HE1:=Lib.hid he1
 have HI1:=Lib.hid he1.inv
 have HOv:=Lib.hid (hov.ev he1)
 have HRw:=Lib.hid (hrw.ev he1)
 obtain⟨i0,hi,hz0,hz1,hz2⟩:=info_parts int_info
 clear hI hov hrw hm hrs hlt hn he1 hb6 hn6
 go_enter Try.func40,Try.ntmps40
 go_upto_region 1 with fail
 try rw[hw1]
 clear hw1
 go_wp2_with fail
 go_loopg [7,18] m (fun g v7 v18 wr=>∃ i:Nat,i≤m∧m-i≤g∧v18=.int .i64 (i:Int)∧v7=.int .i64 ((lensTo xss i:Nat):Int)∧wr=w1)
 case atStart=>exact⟨0,Nat.zero_le _,by omega,rfl,rfl,rfl⟩
 case round=>
  obtain⟨i,him,hg,rfl,rfl,rfl⟩:=hrel
  by_cases hi':i<m
  ·obtain⟨u,hu,ai,ci,hue,hfr,_⟩:=HRw.out.row i (by rw[HM.out];exact hi')
   have hui:i<vs.length:=by rw[HRw.out.len,HM.out];exact hi'
   obtain⟨g0,rfl,_,_,hc0,_⟩:=HOv.out.headAt (i:=i) hui
   rw[hu,hue] at hc0
   have hls:=lensTo_succ (xss:=xss) (i:=i) (by rw[HM.out];exact hi')
   have hle:lensTo xss (i+1)≤n:=by rw[←HLn.out];exact lensTo_mono (by rw[HM.out];omega) (Nat.le_refl _)
   obtain⟨L,hL⟩:∃ L,(xss.getD i []).length=L:=⟨_,rfl⟩
   rw[hL] at hc0 hls
   obtain⟨q,hq⟩:∃ q,lensTo xss i=q:=⟨_,rfl⟩
   rw[hq] at hls
   rw[hq]
   obtain⟨q2,hq2⟩:∃ x,q+L=x:=⟨_,rfl⟩
   rw[hq2] at hls
   rw[hls] at hle
   have HLs:=Lib.hid hls
   have hir:(i:Int)<(m:Int):=by omega
   have hw:IntKind.i64.wrap ((q:Int)+(L:Int))=(q2:Int):=by rw[show (q:Int)+(L:Int)=(q2:Int) by omega];exact IntWalk.i64_in _ (by omega)
   clear hu hue hfr hL hq hq2 hls
   go_wp2_with fail
   go_roundg (m-(i+1))
   case measure=>omega
   case rel=>exact⟨i+1,by omega,by omega,by go_num,by rw[HLs.out],rfl⟩
  ·obtain rfl:i=m:=by omega
   have hq:lensTo xss i=n:=by rw[←HM.out,HLn.out]
   rw[hq]
   obtain⟨w1,hw1⟩:∃ x,x=wr:=⟨_,rfl⟩
   subst hw1
   clear hq
   go_wp2_with (refine wpList_make_full _ rfl _ _ 25 rfl w1.heap.size 3 i0 (.int .i64 0) 1 Try.underlying25 hi hz0 hz1 .i64 .i64 (n:Int) (n:Int) n rfl rfl rfl rfl ?q1 ?q2 (Nat.le_refl _) ?_)
   case q1=>rw[hz2];omega
   case q2=>unfold maxLen;omega
   intro w2 ho2 hg2
   have hown:OwnI R w1.heap.size 3 w2 (.slice (some ⟨w1.heap.size,0,none⟩) n n) (List.replicate n 0):=OwnI.made HI1.out ho2
   have he2:Ev R w1 R w2:=(Ev.refl HI1.out).grown hg2 (by simp)
   have hoa:OutAt R w1 (w2.alloc (.cells #[.slice (some ⟨w1.heap.size,0,none⟩) n n,.int .i64 root,.int .i64 lone] 27)) w2.heap.size w1.heap.size n (List.replicate n 0) root lone:=
    ⟨he2.alloc _,he2.inv.none_of_ge (Nat.le_refl _),heap_alloc_new _ _,by rw[toI_reps];exact hown.alloc _,he2.size,fun e=>by have:=(hown.lt w1.heap.size rfl).2;omega,by simp⟩
   have HOa:=Lib.hid hoa
   obtain⟨bo,hbo⟩:∃ x,w2.heap.size=x:=⟨_,rfl⟩
   obtain⟨gS,hgS⟩:∃ x,w1.heap.size=x:=⟨_,rfl⟩
   obtain⟨w3,hw3⟩:∃ x,w2.alloc (.cells #[.slice (some ⟨w1.heap.size,0,none⟩) n n,.int .i64 root,.int .i64 lone] 27)=x:=⟨_,rfl⟩
   rw[hw3,hbo,hgS] at HOa
   have HGs:=Lib.hid hgS
   clear hown he2 hoa ho2 hg2
   go_upto_region 8 with fail
   try rw[hgS] at hw3
   try rw[hw3]
   try rw[hbo]
   try rw[hgS]
   clear hw3 hbo hgS
   go_wp2_with fail
   go_loopg [34] i (fun g v34 wr=>∃ k:Nat,k≤i∧i-k≤g∧v34=.int .i64 (k:Int)∧OutAt R w1 wr bo gS n (layA (xss.take k) (List.replicate n 0)) root lone)
   case atStart=>exact⟨0,Nat.zero_le _,by omega,rfl,HOa.out⟩
   case round=>
    clear HOa
    obtain⟨k,hki,hg2,rfl,hoa⟩:=hrel
    by_cases hk:k<i
    ·obtain⟨u,hu,ai,ci,hue,hfr,_⟩:=HRw.out.row k (by rw[HM.out];exact hk)
     have hui:k<vs.length:=by rw[HRw.out.len,HM.out];exact hk
     obtain⟨g0,rfl,_,_,hc0,_⟩:=(HOv.out.ev hoa.ev).headAt (i:=k) hui
     rw[hu,hue] at hc0
     have hlt:=HLt.out k (by rw[HM.out];exact hk)
     have hxs:=(HRs.out k (by rw[HM.out];exact hk)).1
     have htk:=layA_take (xss:=xss) (S:=List.replicate n 0) (k:=k) (by rw[HM.out];exact hk)
     obtain⟨X,hX⟩:∃ X,xss.getD k []=X:=⟨_,rfl⟩
     rw[hX] at hc0 hfr hlt hxs htk
     obtain⟨L,hL⟩:∃ L,X.length=L:=⟨_,rfl⟩
     rw[hL] at hc0 hfr hxs htk
     obtain⟨T1,hT1⟩:∃ T,layA (xss.take k) (List.replicate n 0)=T:=⟨_,rfl⟩
     rw[hT1] at hoa htk
     have HLe:=Lib.hid hL
     have HFr:=Lib.hid (fun w' (h:Ev R w1 R w')=>hfr.ev h)
     have HLt2:=Lib.hid hlt
     have HTk:=Lib.hid htk
     have HOa:=Lib.hid hoa
     have hkr:(k:Int)<(i:Int):=by omega
     clear hu hue hfr hX hL hT1 hlt htk hoa
     go_wp2_with fail
     go_loopg [40] L (fun g v40 wr=>∃ j:Nat,j≤L∧L-j≤g∧v40=.int .i64 (j:Int)∧OutAt R w1 wr bo gS n (layT X T1 j) root lone)
     case atStart=>exact⟨0,Nat.zero_le _,by omega,rfl,HOa.out⟩
     case round=>
      clear HOa hc0
      obtain⟨j,hjl,hg3,rfl,hoa⟩:=hrel
      have HOa:=Lib.hid hoa
      have hfr:=HFr.out _ hoa.ev
      by_cases hj:j<L
      ·obtain⟨bS,oS,rfl,cx⟩:=hfr.at (i:=j) (by rw[HLe.out];exact hj)
       obtain⟨_,_,e0,cf⟩:=hfr.at (i:=0) (by rw[HLe.out];omega)
       cases e0
       have hxn:at' X j<n:=HLt2.out _ (by rw[at'_eq (by rw[HLe.out];exact hj)];exact List.getElem_mem _)
       obtain⟨x,hx⟩:∃ x,at' X j=x:=⟨_,rfl⟩
       obtain⟨f,hf⟩:∃ x,at' X 0=x:=⟨_,rfl⟩
       have hsc:layT X T1 (j+1)=(layT X T1 j).set x (at' X (nextI L j)):=by show (layT X T1 j).set (at' X j) (at' X (nextI X.length j))=_;rw[hx,HLe.out]
       rw[hx] at cx hxn
       rw[hf] at cf
       simp only[Nat.add_zero] at cf
       obtain⟨d0,_,_,_⟩:=hoa.cells
       obtain⟨_,e1,_,_,s1,f1⟩:=hoa.own.headAt (by rw[toI_length];exact hoa.len) hxn
       cases e1
       have hjr:(j:Int)<(L:Int):=by omega
       have hxr:(x:Int)<(n:Int):=by omega
       have hL0:(0:Int)<(L:Int):=by omega
       obtain⟨j1,hj1⟩:∃ x,j+1=x:=⟨_,rfl⟩
       have hw:IntKind.i64.wrap ((j:Int)+1)=(j1:Int):=by rw[show (j:Int)+1=(j1:Int) by omega];exact IntWalk.i64_in _ (by omega)
       by_cases hjn:j1<L
       ·obtain⟨_,_,e0,cn⟩:=hfr.at (i:=j1) (by rw[HLe.out];exact hjn)
        cases e0
        obtain⟨y,hy⟩:∃ x,at' X j1=x:=⟨_,rfl⟩
        rw[hy] at cn
        rw[show nextI L j=j1 by unfold nextI;rw[if_pos (by omega),hj1],hy] at hsc
        have hjnr:(j1:Int)<(L:Int):=by omega
        have hput:=hoa.putS hxn y
        rw[←hsc] at hput
        have HO2:=Lib.hid hput
        clear hput hsc hoa hfr hx hf hy
        go_wp2_with fail
        go_roundg (L-(j+1))
        case measure=>omega
        case rel=>exact⟨j+1,by omega,by omega,by go_num,HO2.out⟩
       ·rw[show nextI L j=0 by unfold nextI;rw[if_neg (by omega)],hf] at hsc
        have hjnr:¬ (j1:Int)<(L:Int):=by omega
        have hput:=hoa.putS hxn f
        rw[←hsc] at hput
        have HO2:=Lib.hid hput
        clear hput hsc hoa hfr hx hf
        go_wp2_with fail
        go_roundg (L-(j+1))
        case measure=>omega
        case rel=>exact⟨j+1,by omega,by omega,by go_num,HO2.out⟩
      ·obtain rfl:j=L:=by omega
       have ho:=hoa
       rw[←HTk.out] at ho
       have HO2:=Lib.hid ho
       clear hoa hfr ho HOa
       go_wp2_with fail
       go_roundg (i-(k+1))
       case measure=>omega
       case rel=>exact⟨k+1,by omega,by omega,by go_num,HO2.out⟩
    ·obtain rfl:k=i:=by omega
     have hall:xss.take k=xss:=by rw[←HM.out,List.take_length]
     rw[hall] at hoa
     obtain⟨d0,d1,d2,_⟩:=hoa.cells
     obtain⟨yb,yn⟩:=HB6.out _ hoa.ev
     obtain⟨y0,y1,y2,yf⟩:=boxC_cells yb
     have hf0:=yf 0
     have hf1:=yf 1
     have hf2:=yf 2
     have HYb:=Lib.hid yb
     have HYn:=Lib.hid yn
     have HOa:=Lib.hid hoa
     have hlen:(layA xss (List.replicate n 0)).length=n:=hoa.len
     have HLen:=Lib.hid hlen
     clear hoa yb yn yf hall hlen
     go_wp2_with fail
     have hb3:(((wr.setCell ⟨w.heap.size,0,none⟩ (.slice (some ⟨gS,0,none⟩) n n)).setCell ⟨w.heap.size,1,none⟩ (.int .i64 root)).setCell ⟨w.heap.size,2,none⟩ (.int .i64 lone)).heap[w.heap.size]?=some (.cells #[.slice (some ⟨gS,0,none⟩) n n,.int .i64 root,.int .i64 lone] 27 (0,0)):=heap_setCell_same _ _ 2 _ _ _ (heap_setCell_same _ _ 1 _ _ _ (heap_setCell_same _ _ 0 _ _ _ HYb.out))
     obtain⟨u0,u1,u2,_⟩:=boxC_cells hb3
     refine bodyPost_ret (v:=refV (.slice (some ⟨gS,0,none⟩) n n) root lone) ?_ rfl ⟨some ⟨gS,0,none⟩,n,?_,?_,?_⟩
     ·simp[results,Try.results40,go_sem,u0,u1,u2,refV]
     ·rw[HLen.out]
     ·exact (((HE1.out.trans HOa.out.ev).setCell (p:=⟨w.heap.size,0,none⟩) (Nat.le_refl _) HYn.out _).setCell (p:=⟨w.heap.size,1,none⟩) (Nat.le_refl _) HYn.out _).setCell (p:=⟨w.heap.size,2,none⟩) (Nat.le_refl _) HYn.out _
     ·rw[HLen.out]
      have hne:∀ (o:Nat),(Value.slice (some ⟨gS,0,none⟩) n n).ownBlock≠some (⟨w.heap.size,o,none⟩:Addr).block:=fun o e=>by
       have h1:=(HOa.out.own.lt _ e).1
       have:=HS1.out
       simp at h1
       omega
      exact (((HOa.out.own.mono (by have:=HS1.out;omega)).setCell (hne 0) _).setCell (hne 1) _).setCell (hne 2) _
end
section
set_option linter.unusedVariables false
theorem at_set {S:List Nat} {i j y:Nat} (hj:j<S.length):at' (S.set i y) j=if i=j then y else at' S j:=by
 rw[at'_eq (by rw[List.length_set];exact hj),List.getElem_set]
 by_cases e:i=j
 ·rw[if_pos e,if_pos e]
 ·rw[if_neg e,if_neg e,at'_eq hj]
theorem layT_at {v S:List Nat} (hv:v.Nodup) (hlt:∀ x,x∈v→x<S.length):∀ i,i≤v.length →
  (∀ j,j<i→at' (layT v S i) (at' v j)=at' v (nextI v.length j))∧∀ x,x<S.length→(∀ j,j<i→at' v j≠x)→at' (layT v S i) x=at' S x
 | 0,_=>⟨fun j hj=>by omega,fun x _ _=>rfl⟩
 | i+1,hi=>by
  obtain⟨h1,h2⟩:=layT_at hv hlt i (by omega)
  have hl:=layT_length v S i
  have hin:∀ j,j<v.length→at' v j<S.length:=fun j hj=>hlt _ (by rw[at'_eq hj];exact List.getElem_mem hj)
  refine⟨fun j hj=>?_,fun x hx hn=>?_⟩
  ·show at' ((layT v S i).set (at' v i) (at' v (nextI v.length i))) (at' v j)=_
   rw[at_set (by rw[hl];exact hin j (by omega))]
   by_cases e:j=i
   ·rw[e,if_pos rfl]
   ·have hne:at' v i≠at' v j:=fun he=>by
     rw[at'_eq (by omega),at'_eq (by omega)] at he
     exact e (nodup_inj hv (by omega) (by omega) he).symm
    rw[if_neg hne]
    exact h1 j (by omega)
  ·show at' ((layT v S i).set (at' v i) (at' v (nextI v.length i))) x=_
   rw[at_set (by rw[hl];exact hx),if_neg (hn i (by omega))]
   exact h2 x hx fun j hj=>hn j (by omega)
theorem layA_length (xss:List (List Nat)):∀ S:List Nat,(layA xss S).length=S.length:=by
 induction xss with
 | nil=>exact fun S=>rfl
 | cons v xss ih=>
  intro S
  show (layA xss (layT v S v.length)).length=_
  rw[ih,layT_length]
theorem layA_at:∀ (xss:List (List Nat)) (S:List Nat),xss.flatten.Nodup→(∀ x,x∈xss.flatten→x<S.length) →
  (∀ v,v∈xss→∀ j,j<v.length→at' (layA xss S) (at' v j)=at' v (nextI v.length j))∧∀ x,x<S.length→x∉xss.flatten→at' (layA xss S) x=at' S x
 | [],S,_,_=>⟨fun v hv=>(by cases hv),fun x _ _=>rfl⟩
 | v :: xss,S,hn,hlt=>by
  rw[List.flatten_cons,List.nodup_append] at hn
  obtain⟨n1,n2,n3⟩:=hn
  have hltv:∀ x,x∈v→x<S.length:=fun x hx=>hlt x (by rw[List.flatten_cons];exact List.mem_append_left _ hx)
  obtain⟨a1,a2⟩:=layT_at n1 hltv v.length (Nat.le_refl _)
  obtain⟨b1,b2⟩:=layA_at xss (layT v S v.length) n2 (fun x hx=>by rw[layT_length];exact hlt x (by rw[List.flatten_cons];exact List.mem_append_right _ hx))
  have e:layA (v :: xss) S=layA xss (layT v S v.length):=rfl
  rw[e]
  refine⟨fun u hu j hj=>?_,fun x hx hnx=>?_⟩
  ·rcases List.mem_cons.1 hu with rfl|hu
   ·have hm:at' u j∈u:=by rw[at'_eq hj];exact List.getElem_mem hj
    rw[b2 _ (by rw[layT_length];exact hltv _ hm) (fun h=>n3 _ hm _ h rfl)]
    exact a1 j hj
   ·exact b1 u hu j hj
  ·rw[List.flatten_cons,List.mem_append,not_or] at hnx
   rw[b2 x (by rw[layT_length];exact hx) hnx.2]
   exact a2 x hx fun j hj he=>hnx.1 (by rw[←he,at'_eq hj];exact List.getElem_mem hj)
end
section
set_option linter.unusedVariables false
theorem lists_flat {s:List Nat} (hs:IsPerm s) {r:Nat→Nat→Prop} {cnt:Nat→Nat} (ho:Ord s.length r (namesL s) cnt):∀ i,i≤s.length →
  (listsL s i).length=cnt i∧(listsL s i).flatten.Nodup∧(∀ y,y∈(listsL s i).flatten↔y<s.length∧nth (namesL s) y<(cnt i:Int))∧∀ v,v∈listsL s i→∃ k,k<s.length∧v=orbitL s k
 | 0,_=>by
  refine⟨by rw[ho.zero];rfl,List.nodup_nil,fun y=>?_,fun v hv=>(by cases hv)⟩
  rw[ho.zero]
  constructor
  ·intro h;cases h
  ·rintro⟨h1,h2⟩
   exfalso
   have:=ho.bound h1
   omega
 | i+1,hi=>by
  obtain⟨h1,h2,h3,h4⟩:=lists_flat hs ho i (by omega)
  have e:listsL s (i+1)=if nth (namesL s) i=((listsL s i).length:Int) then listsL s i ++ [orbitL s i] else listsL s i:=rfl
  rcases ho.ord i (by omega) with ⟨o1,o2,o3⟩|⟨o1,o2⟩
  ·rw[e,if_neg (by rw[h1];omega),o3]
   exact⟨h1,h2,h3,h4⟩
  ·have hfl:(listsL s i ++ [orbitL s i]).flatten=(listsL s i).flatten ++ orbitL s i:=by simp
   rw[e,if_pos (by rw[h1];exact o1),o2,hfl]
   have hmo:∀ y,y∈orbitL s i↔y<s.length∧nth (namesL s) y=(cnt i:Int):=fun y=>by rw[names_orbit hs (by omega),o1]
   refine⟨by rw[List.length_append,h1];rfl,?_,fun y=>?_,fun v hv=>?_⟩
   ·rw[List.nodup_append]
    refine⟨h2,orbitL_nodup hs (by omega),fun a ha b hb he=>?_⟩
    subst he
    have x1:=((h3 a).1 ha).2
    have x2:=((hmo a).1 hb).2
    omega
   ·rw[List.mem_append,h3,hmo]
    constructor
    ·rintro (⟨y1,y2⟩|⟨y1,y2⟩)
     ·exact⟨y1,by omega⟩
     ·exact⟨y1,by omega⟩
    ·rintro⟨y1,y2⟩
     by_cases he:nth (namesL s) y=(cnt i:Int)
     ·exact Or.inr ⟨y1,he⟩
     ·exact Or.inl ⟨y1,by omega⟩
   ·rcases List.mem_append.1 hv with hv|hv
    ·exact h4 v hv
    ·exact⟨i,by omega,List.mem_singleton.1 hv⟩
theorem lists_all {s:List Nat} (hs:IsPerm s):(listsL s s.length).flatten.Nodup∧(∀ y,y∈(listsL s s.length).flatten↔y<s.length)∧∀ v,v∈listsL s s.length→∃ k,k<s.length∧v=orbitL s k:=by
 have ho:=namesL_ord hs
 obtain⟨h1,h2,h3,h4⟩:=lists_flat hs ho s.length (Nat.le_refl _)
 refine⟨h2,fun y=>?_,h4⟩
 rw[h3]
 refine⟨fun h=>h.1,fun h=>⟨h,?_⟩⟩
 have hb:=ho.bound h
 have hm:=ho.mono (k:=y+1) (l:=s.length) (by omega) (Nat.le_refl _)
 omega
end
section
set_option linter.unusedVariables false
structure RowsOf (xss:List (List Nat)) (T:List Nat):Prop where
 nd:xss.flatten.Nodup
 mem:∀ y,y∈xss.flatten↔y<T.length
 next:∀ v,v∈xss→∀ j,j<v.length→at' T (at' v j)=at' v (nextI v.length j)
theorem RowsOf.lay {xss:List (List Nat)} {T:List Nat} (h:RowsOf xss T):layA xss (List.replicate T.length 0)=T:=by
 obtain⟨h1,_⟩:=layA_at xss (List.replicate T.length 0) h.nd (fun x hx=>by rw[List.length_replicate];exact (h.mem x).1 hx)
 refine List.ext_getElem (by rw[layA_length,List.length_replicate]) fun y hy1 hy2=>?_
 obtain⟨v,hv,hy⟩:=List.mem_flatten.1 ((h.mem y).2 hy2)
 obtain⟨j,hj,rfl⟩:=List.getElem_of_mem hy
 have e1:=h1 v hv j hj
 rw[←h.next v hv j hj,at'_eq hj] at e1
 rw[at'_eq hy1,at'_eq hy2] at e1
 exact e1
theorem lists_rows {s:List Nat} (hs:IsPerm s):RowsOf (listsL s s.length) s:=by
 obtain⟨h1,h2,h3⟩:=lists_all hs
 refine⟨h1,h2,fun v hv j hj=>?_⟩
 obtain⟨k,hk,rfl⟩:=h3 v hv
 obtain⟨c,hc,hcl,he⟩:=orbitL_map hs hk
 have hl:(orbitL s k).length=c:=by rw[he];simp
 have ha:∀ j,j<c→at' (orbitL s k) j=it s j k:=fun j hj=>by rw[he];simp[at',hj]
 have hsucc:∀ j,it s (j+1) k=at' s (it s j k):=fun j=>by rw[it_itf,it_itf,itf_succ]
 rw[hl] at hj ⊢
 unfold nextI
 by_cases e:j+1<c
 ·rw[if_pos e,ha j hj,ha _ e,hsucc]
 ·rw[if_neg e,ha j hj,ha 0 hc,←hsucc,show j+1=c by omega,hcl]
  rfl
end
section
set_option linter.unusedVariables false
def Cy (f:Nat→Nat) (v:List Nat):Prop:=∀ j,j<v.length→f (at' v j)=at' v (nextI v.length j)
def insF (f:Nat→Nat) (t d x:Nat):Nat:=if x=t then d else if x=d then f t else f x
theorem at_ins {A B:List Nat} {t d:Nat} (j:Nat):at' (A ++ t :: d :: B) j=if j≤A.length then at' (A ++ t :: B) j else if j=A.length+1 then d else at' (A ++ t :: B) (j-1):=by
 unfold at'
 simp only[List.getD_eq_getElem?_getD]
 congr 1
 by_cases h1:j<A.length
 ·rw[if_pos (by omega),List.getElem?_append_left h1,List.getElem?_append_left h1]
 ·rw[List.getElem?_append_right (by omega)]
  by_cases h2:j=A.length
  ·subst h2;simp
  ·rw[if_neg (by omega)]
   by_cases h3:j=A.length+1
   ·subst h3;simp
   ·rw[if_neg h3,List.getElem?_append_right (by omega)]
    obtain⟨k,rfl⟩:∃ k,j=A.length+2+k:=⟨j-(A.length+2),by omega⟩
    rw[show A.length+2+k-A.length=k+2 by omega,show A.length+2+k-1-A.length=k+1 by omega]
    simp
theorem flat_ins {A B:List Nat} {t d:Nat} (hA:t∉A) (hB:t∉B):(A ++ t :: B).flatMap (aftF t d)=A ++ t :: d :: B:=by
 have key:∀ l:List Nat,t∉l→l.flatMap (aftF t d)=l:=fun l hl=>by
  induction l with
  | nil=>rfl
  | cons x l ih=>
   simp only[List.mem_cons,not_or] at hl
   rw[List.flatMap_cons,ih hl.2]
   unfold aftF
   rw[if_neg (fun e=>hl.1 e.symm)]
   rfl
 rw[List.flatMap_append,List.flatMap_cons,key A hA,key B hB]
 unfold aftF
 rw[if_pos rfl]
 rfl
theorem flat_same {v:List Nat} {t d:Nat} (h:t∉v):v.flatMap (aftF t d)=v:=by
 induction v with
 | nil=>rfl
 | cons x l ih=>
  simp only[List.mem_cons,not_or] at h
  rw[List.flatMap_cons,ih h.2]
  unfold aftF
  rw[if_neg (fun e=>h.1 e.symm)]
  rfl
theorem Cy.ins {f:Nat→Nat} {A B:List Nat} {t d:Nat} (h:Cy f (A ++ t :: B)) (hn:(A ++ t :: B).Nodup) (hd:d∉A ++ t :: B):Cy (insF f t d) (A ++ t :: d :: B):=by
 have hl:(A ++ t :: B).length=A.length+B.length+1:=by simp;omega
 have hl2:(A ++ t :: d :: B).length=A.length+B.length+2:=by simp;omega
 have hat:at' (A ++ t :: B) A.length=t:=by simp[at',List.getD]
 have hmem:∀ i,i<A.length+B.length+1→at' (A ++ t :: B) i≠d:=fun i hi e=>hd (by rw[←e,at'_eq (by rw[hl];exact hi)];exact List.getElem_mem _)
 have hnt:∀ i,i<A.length+B.length+1→i≠A.length→at' (A ++ t :: B) i≠t:=fun i hi hne e=>by
  have e2:at' (A ++ t :: B) i=at' (A ++ t :: B) A.length:=e.trans hat.symm
  rw[at'_eq (by rw[hl];exact hi),at'_eq (by rw[hl];omega)] at e2
  exact hne (nodup_inj hn _ _ e2)
 have hnx:∀ i,i<A.length+B.length+1→f (at' (A ++ t :: B) i)=at' (A ++ t :: B) (nextI (A.length+B.length+1) i):=fun i hi=>by
  have:=h i (by rw[hl];exact hi)
  rw[hl] at this
  exact this
 intro j hj
 rw[hl2] at hj ⊢
 have lo:∀ i,i≤A.length→at' (A ++ t :: d :: B) i=at' (A ++ t :: B) i:=fun i hi=>by rw[at_ins,if_pos hi]
 have mi:at' (A ++ t :: d :: B) (A.length+1)=d:=by rw[at_ins,if_neg (by omega),if_pos rfl]
 have hi':∀ i,A.length+1<i→at' (A ++ t :: d :: B) i=at' (A ++ t :: B) (i-1):=fun i hi=>by rw[at_ins,if_neg (by omega),if_neg (by omega)]
 have nx:∀ m i,i+1<m→nextI m i=i+1:=fun m i hi=>by unfold nextI;rw[if_pos hi]
 have nz:∀ m i,¬ i+1<m→nextI m i=0:=fun m i hi=>by unfold nextI;rw[if_neg hi]
 by_cases h1:j<A.length
 ·rw[lo j (by omega),nx _ j (by omega),lo (j+1) (by omega)]
  unfold insF
  rw[if_neg (hnt j (by omega) (by omega)),if_neg (hmem j (by omega)),hnx j (by omega),nx _ j (by omega)]
 ·by_cases h2:j=A.length
  ·rw[h2,lo _ (Nat.le_refl _),hat,nx _ _ (by omega),mi]
   unfold insF
   rw[if_pos rfl]
  ·by_cases h3:j=A.length+1
   ·have hdt:d≠t:=fun e=>hmem A.length (by omega) (by rw[hat,e])
    have h5:=hnx A.length (by omega)
    rw[hat] at h5
    rw[h3,mi]
    unfold insF
    rw[if_neg hdt,if_pos rfl,h5]
    by_cases h4:A.length+1<A.length+B.length+1
    ·rw[nx _ _ h4,nx _ _ (by omega),hi' _ (by omega)]
     rfl
    ·rw[nz _ _ h4,nz _ _ (by omega),lo 0 (by omega)]
   ·rw[hi' j (by omega)]
    unfold insF
    rw[if_neg (hnt (j-1) (by omega) (by omega)),if_neg (hmem (j-1) (by omega)),hnx (j-1) (by omega)]
    by_cases h4:j+1<A.length+B.length+2
    ·rw[nx _ _ (by omega),nx _ j h4,hi' _ (by omega)]
     congr 1
     omega
    ·rw[nz _ _ (by omega),nz _ j h4,lo 0 (by omega)]
end
end Go.Proofs.Ytklkgicjfnbndaa
