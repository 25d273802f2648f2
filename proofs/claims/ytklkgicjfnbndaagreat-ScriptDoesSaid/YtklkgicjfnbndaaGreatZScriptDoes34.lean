/- parquetryref09.Walk: the document's walk. Conditions: the list is a permutation of an even number that lies in memory. -/
import Derived.Test.YtklkgicjfnbndaaGreatZScriptDoes19
import Derived.Test.YtklkgicjfnbndaaGreatZScriptDoes20
import Derived.Test.YtklkgicjfnbndaaGreatZScriptDoes22
namespace Go.Proofs.YtklkgicjfnbndaaGreat
open Go.RowKit
set_option linter.unusedVariables false
def dartsW (s:List Nat) (V root n:Nat):List Int:=(List.range n).map fun j=>((wd s V root j:Nat):Int)
def kindsW (s:List Nat) (V root n:Nat):List Int:=(List.range n).map fun j=>((wk s V root j:Nat):Int)
theorem dartsW_length (s:List Nat) (V root n:Nat):(dartsW s V root n).length=n:=by simp[dartsW]
theorem kindsW_length (s:List Nat) (V root n:Nat):(kindsW s V root n).length=n:=by simp[kindsW]
theorem dartsW_succ (s:List Nat) (V root n:Nat):dartsW s V root (n+1)=dartsW s V root n ++ [((wd s V root n:Nat):Int)]:=by simp[dartsW,List.range_succ]
theorem kindsW_succ (s:List Nat) (V root n:Nat):kindsW s V root (n+1)=kindsW s V root n ++ [((wk s V root n:Nat):Int)]:=by simp[kindsW,List.range_succ]
def RetWalk (R:Reg) (w:World) (xs ys:List Int) (e:Ending) (w':World):Prop:=
 ∃ a b c d,e=.returned (.tuple #[.slice a xs.length c,.slice b ys.length d])∧Ev R w R w'∧OwnI R w.heap.size 3 w' (.slice a xs.length c) xs∧OwnI R w.heap.size 3 w' (.slice b ys.length d) ys
def FirstOf (f:Int→Option Int) (ed:List Int):Prop:=∀ e:Nat,f (e:Int)=if nth ed e=0 then none else some (nth ed e-1)
def MetOf (f:Int→Option Int) (mt:List Bool):Prop:=∀ v:Nat,(f (v:Int)).getD 0=if getB mt v=true then 1 else 0
theorem FirstOf.put {f:Int→Option Int} {ed:List Int} (hf:FirstOf f ed) {h:Nat} (hh:h<ed.length) (k:Nat):FirstOf (updF f (h:Int) (k:Int)) (ed.set h ((k:Int)+1)):=fun e=>by
 rw[nth_set hh]
 by_cases e1:h=e
 ·subst e1
  rw[updF_same,if_pos rfl,if_neg (by omega)]
  congr 1;omega
 ·rw[updF_other _ _ _ (by omega),if_neg e1]
  exact hf e
theorem MetOf.put {f:Int→Option Int} {mt:List Bool} (hf:MetOf f mt) {v:Nat} (hv:v<mt.length):MetOf (updF f (v:Int) 1) (mt.set v true):=fun e=>by
 rw[getB_set hv]
 by_cases e1:v=e
 ·subst e1
  rw[updF_same,if_pos rfl];rfl
 ·rw[updF_other _ _ _ (by omega),if_neg e1]
  exact hf e
theorem dis_neI {u v:Value} (h:∀ k,u.ownBlock=some k→v.ownBlock≠some k):v.ownBlock=none∨v.ownBlock≠u.ownBlock:=by
 cases hu:u.ownBlock with
 | none=>
  cases hv:v.ownBlock with
  | none=>exact Or.inl rfl
  | some k=>exact Or.inr (by simp)
 | some k=>exact Or.inr (h k hu)
set_option maxRecDepth 100000 in
set_option maxHeartbeats 4000000 in
theorem rwalk_any (R:Reg) (w:World) (hI:Inv R w) (v:Value) (s:List Nat) (rt lone:Int) (hv:FreeI R w v (toI s)) (hS:IsPerm s) (hn:s.length≤131073) (he:s.length % 2=0) (root:Nat) (hr:root<s.length):
  Calls Tryz.prog 142 #[refV v rt lone,.int .i64 (root:Int)] w (RetWalk R w (dartsW s (sizesL s).length root (partC' s root)) (kindsW s (sizesL s).length root (partC' s root))):=by
 obtain⟨a0,cap0,rfl,hv⟩:=hv.open
 rw[toI_length] at hv ⊢
 have he0:Ev R w R (w.alloc (.cells #[.slice a0 s.length cap0,.int .i64 rt,.int .i64 lone] 27)):=(Ev.refl hI).alloc _
 have HNm:=Lib.hid (fun w' (he':Ev R w R w')=>r8names_any R w' he'.inv _ s rt lone (hv.ev he') hS hn he)
 have HVn:=Lib.hid (fun w' (he':Ev R w R w')=>rnames_any R w' he'.inv _ s (hv.ev he') hS (by omega))
 unfold refV at HNm
 have HX:=Lib.hid (fun R' w' (h:Ev R (w.alloc (.cells #[.slice a0 s.length cap0,.int .i64 rt,.int .i64 lone] 27)) R' w')=>h.ref3 (hI.none_of_ge (Nat.le_refl _)))
 have HIn:=Lib.hid (fun i=>winv hS he hr (V:=(sizesL s).length) (Nat.le_refl _) i)
 have HWp:=Lib.hid (wpart hS he hr (V:=(sizesL s).length) (Nat.le_refl _))
 have HF:=Lib.hid hv
 have HI:=Lib.hid hI
 have HE0:=Lib.hid he0
 have HS:=Lib.hid hS
 have HEv:=Lib.hid he
 have HPl:=Lib.hid (partsL_length hS he)
 have HNl:=Lib.hid (namesL_length s)
 obtain⟨n,hl⟩:∃ n,s.length=n:=⟨_,rfl⟩
 obtain⟨N,hN⟩:∃ N,partsL s=N:=⟨_,rfl⟩
 rw[hl] at HF HNm HVn HX hn hr HPl HNl HE0 HWp ⊢
 rw[hN] at HNm HPl HWp
 have HL:=Lib.hid hl
 clear hv hI he0 hS he hl hN
 go_enter Tryz.func142,Tryz.ntmps142
 unfold refV
 obtain⟨x0,x1,x2⟩:=HX.out R _ (Ev.refl HE0.out.inv)
 go_wp2_with fail
 refine (HNm.out _ HE0.out).mono ?_
 rintro e w1 ⟨vN,rfl,he1,ho1⟩
 obtain⟨aN,cN,rfl,_⟩:=ho1.free.open
 rw[HPl.out] at ho1 ⊢
 have HO1:=Lib.hid ho1
 have HE1:=Lib.hid (HE0.out.trans he1)
 have HA1:=Lib.hid he1
 clear ho1 he1 HNm
 obtain⟨gN,rfl,kr1,kr2,kr3,kr4⟩:=HO1.out.headAt HPl.out (i:=root) hr
 clear kr1 kr2 kr3 kr4
 obtain⟨q,hq⟩:∃ q,nth N root=q:=⟨_,rfl⟩
 rw[hq] at HWp
 have HQ:=Lib.hid hq
 clear hq x0 x1 x2
 go_wp2_with fail
 go_loopg [7,24] n (fun g v7 v24 wr=>∃ i:Nat,i≤n∧n-i≤g∧v7=.int .i64 ((dcnt N q i:Nat):Int)∧v24=.int .i64 (i:Int)∧wr=w1)
 case atStart=>exact⟨0,by omega,by omega,rfl,rfl,rfl⟩
 case round=>
  obtain⟨i,hi,hg,rfl,rfl,rfl⟩:=hrel
  by_cases hil:i<n
  ·obtain⟨gb,e1,_,_,hc,_⟩:=HO1.out.headAt HPl.out (i:=i) hil
   cases e1
   obtain⟨gb',e1,_,_,hcr,_⟩:=HO1.out.headAt HPl.out (i:=root) hr
   cases e1
   rw[HQ.out] at hcr
   have hds:=dcnt_succ N q i
   have hdl:=dcnt_le N q i
   obtain⟨x,hx⟩:∃ x,nth N i=x:=⟨_,rfl⟩
   rw[hx] at hc hds
   have HDS:=Lib.hid hds
   obtain⟨t,ht⟩:∃ t,dcnt N q i=t:=⟨_,rfl⟩
   rw[ht] at HDS hdl ⊢
   clear hds hx ht
   by_cases hxq:x=q
   ·subst hxq
    have hb:(x == x)=true:=by simp
    go_wp2_with fail
    go_roundg (n-(i+1))
    case measure=>omega
    case rel=>exact⟨i+1,by omega,by omega,by rw[HDS.out];simp,by go_num,rfl⟩
   ·have hb:(x == q)=false:=by simp[hxq]
    go_wp2_with fail
    go_roundg (n-(i+1))
    case measure=>omega
    case rel=>exact⟨i+1,by omega,by omega,by rw[HDS.out,if_neg hxq,Nat.add_zero],by go_num,rfl⟩
  ·obtain rfl:i=n:=by omega
   obtain⟨P,hP⟩:∃ P,partC' s root=P:=⟨_,rfl⟩
   have hPb:=dcnt_le N q i
   have HP1:=Lib.hid hP
   rw[hP] at HWp ⊢
   rw[←HWp.out] at hPb ⊢
   obtain⟨w1,hw1⟩:∃ w1,w1=wr:=⟨_,rfl⟩
   subst hw1
   obtain⟨x0,x1,x2⟩:=HX.out R _ HA1.out
   go_wp2_with fail
   refine (HVn.out _ HE1.out).mono ?_
   rintro e w2 ⟨vV,rfl,he2,ho2⟩
   obtain⟨aV,cV,rfl,hfV⟩:=ho2.free.open
   rw[HNl.out] at ho2 hfV ⊢
   have HA2:=Lib.hid (HA1.out.trans he2)
   have HE2:=Lib.hid (HE1.out.trans he2)
   have HFV:=Lib.hid hfV
   clear he2 ho2 hfV HVn x0 x1 x2
   have hvr:=vtx_eq HS.out (x:=root) (by rw[HL.out];exact hr)
   have hvl:=vtx_lt HS.out (x:=root) (by rw[HL.out];exact hr)
   have hvlt:∀ x,x<i→vtx s x≤131073:=fun x hx=>by
    have h1:=vtx_lt HS.out (x:=x) (by rw[HL.out];exact hx)
    have h2:=sizesL_le HS.out
    rw[HL.out] at h2
    omega
   have HVl:=Lib.hid hvlt
   obtain⟨bV,oV,eV,hcv⟩:=HFV.out.1.cell (i:=root) (by rw[HNl.out];exact hr)
   rw[hvr] at hcv
   subst eV
   have hvb:=hvlt root hr
   obtain⟨vr,hvr2⟩:∃ v,vtx s root=v:=⟨_,rfl⟩
   rw[hvr2] at hcv hvb
   have HVR:=Lib.hid hvr2
   clear hvr hvl hvlt hvr2
   have hbVl:=lt_of_cell hcv
   have hm1:FMap R (w2.alloc (.map #[] 0)) w2.heap.size 0 (fun _=>none) 0:=FMap.made HE2.out.inv
   have hm2:FMap R ((w2.alloc (.map #[] 0)).alloc (.map #[] 0)) (w2.heap.size+1) 0 (fun _=>none) 0:=by
    have:=FMap.made (HE2.out.inv.alloc (.map #[] 0))
    simpa using this
   have HM1:=Lib.hid (hm1.alloc (.map #[] 0))
   have HM2:=Lib.hid hm2
   have HE3:=Lib.hid (((Ev.refl HE2.out.inv).alloc (.map #[] 0)).alloc (.map #[] 0))
   have hmm:=@run_makeMap Tryz.prog
   clear hm1 hm2
   go_wp2_with (first|(refine wpList_fins rfl _ _ _ rfl HM2.out (by omega) (vr:Int) 1 rfl rfl rfl (by omega) (by omega) ?_;intro w4 hm4 hg4)|fail)
   have HM2b:=Lib.hid hm4
   have HM1b:=Lib.hid (HM1.out.kept hg4 (by simp))
   have HE4:=Lib.hid (HE3.out.mput HM2.out (by omega) hg4)
   have HZ4:Hid (w2.heap.size+2≤w4.heap.size):=Lib.hid (by have:=hg4.size;simp at this;omega)
   clear hg4 hm4 HM1 HM2 HE3
   obtain⟨b1,hb1⟩:∃ b,w2.heap.size=b:=⟨_,rfl⟩
   have HB1:=Lib.hid hb1
   rw[hb1] at HM1b HM2b HZ4 ⊢
   clear hb1 hcv
   have hz24:w2.heap.size≤w4.heap.size:=by have:=HZ4.out;have:=HB1.out;omega
   have hb14:b1+2≤w4.heap.size:=HZ4.out
   obtain⟨V0,hV0⟩:∃ V,(sizesL s).length=V:=⟨_,rfl⟩
   rw[hV0] at HIn ⊢
   have HV0:=Lib.hid hV0
   have HMt0:Hid (MetOf (updF (fun _=>none) (vr:Int) 1) (wst s V0 root 0).mt):=Lib.hid fun v=>by
    show _=if getB ((List.replicate V0 false).set (vtx s root) true) v=true then 1 else 0
    rw[getB_set (by rw[List.length_replicate,←hV0];exact vtx_lt HS.out (by rw[HL.out];exact hr)),HVR.out]
    by_cases e:(v:Int)=(vr:Int)
    ·rw[e,updF_same,if_pos (show vr=v by omega)];rfl
    ·rw[updF_other _ _ _ e,if_neg (show ¬ vr=v by omega)]
     have:getB (List.replicate V0 false) v=false:=by
      unfold getB;by_cases h:v<V0 <;> simp[h]
     rw[this];rfl
   have HFi0:Hid (FirstOf (fun _=>none) (wst s V0 root 0).ed):=Lib.hid fun e=>by
    show none=if nth (List.replicate (s.length / 2) 0) e=0 then none else some _
    rw[if_pos (nth_rep _ _)]
   have hc00:(if ((none:Option Int)).isSome=true then 0 else 0+1)=1:=rfl
   have HFP:=Lib.hid (fun j (hj:j<P)=>(HIn.out j).lt j (Nat.le_refl _))
   have hE4b:=HE4.out
   clear hV0
   go_wp2_with fail
   go_loopg [13,14,15] P (fun g v13 v14 v15 wr=>∃ (j:Nat) (a13:Option Addr) (m13 c13:Nat) (a14:Option Addr) (m14 c14 n1 n2 C1 C2:Nat) (f1 f2:Int→Option Int),j≤P∧P-j≤g∧n1≤j∧n2≤j+1∧v13=.slice a13 m13 c13∧v14=.slice a14 m14 c14∧v15=.int .i64 ((wd s V0 root j:Nat):Int)∧Ev R w2 R wr∧w4.heap.size≤wr.heap.size ∧
    FMap R wr b1 n1 f1 C1∧FMap R wr (b1+1) n2 f2 C2∧OwnI R w4.heap.size 3 wr (.slice a13 m13 c13) (dartsW s V0 root j)∧OwnI R w4.heap.size 3 wr (.slice a14 m14 c14) (kindsW s V0 root j)∧(∀ k,(Value.slice a13 m13 c13).ownBlock=some k→(Value.slice a14 m14 c14).ownBlock≠some k)∧True∧True∧FirstOf f1 (wst s V0 root j).ed∧MetOf f2 (wst s V0 root j).mt)
   case atStart=>exact⟨0,none,0,0,none,0,0,0,1,_,_,_,_,by omega,by omega,by omega,by omega,rfl,rfl,rfl,HE4.out,Nat.le_refl _,HM1b.out,HM2b.out,OwnI.nil _ _ _ _,OwnI.nil _ _ _ _,fun k h=>by simp[Value.ownBlock] at h,trivial,trivial,HFi0.out,HMt0.out⟩
   case round=>
    obtain⟨j,a13,m13,c13,a14,m14,c14,n1,n2,C1,C2,f1,f2,hj,hg,hn1,hn2,rfl,rfl,rfl,he,hz,hm1,hm2,ho1,ho2,hds,_,_,hf1,hf2⟩:=hrel
    obtain⟨wa,hwa⟩:∃ wa,wa=wr:=⟨_,rfl⟩
    subst hwa
    have hm13:j=m13:=by rw[ho1.ints.length_eq,dartsW_length]
    subst hm13
    have HEa:=Lib.hid he
    have HMa:=Lib.hid hm1
    have HMb:=Lib.hid hm2
    have HOd:=Lib.hid ho1
    have HOk:=Lib.hid ho2
    have HDs:=Lib.hid hds
    have HF1:=Lib.hid hf1
    have HF2:=Lib.hid hf2
    clear he hm1 hm2 ho1 ho2 hds hf1 hf2
    by_cases hjP:j<P
    ·have hI:=HIn.out j
     obtain⟨st,hst⟩:∃ st,wst s V0 root j=st:=⟨_,rfl⟩
     obtain⟨d,hdd⟩:∃ d,wd s V0 root j=d:=⟨_,rfl⟩
     have hsd:st.d=d:=by rw[←hdd];unfold wd;rw[hst]
     have hdl:d<i:=by have:=hI.lt j (Nat.le_refl _);rw[hdd,HL.out] at this;exact this
     have hxl:d ^^^ 1<i:=by have:=xor_one_lt HEv.out (i:=d) (by rw[HL.out];exact hdl);rwa [HL.out] at this
     have hel:=hI.edl
     have hml:=hI.mtl
     have hvals:=hI.vals (st.d / 2)
     have hvxl:=vtx_lt HS.out (x:=d ^^^ 1) (by rw[HL.out];exact hxl)
     have hvx:=vtx_eq HS.out (x:=d ^^^ 1) (by rw[HL.out];exact hxl)
     have hvb2:=HVl.out (d ^^^ 1) hxl
     rw[HV0.out] at hvxl
     rw[hst] at hel hml hvals HF1 HF2
     have HST:=Lib.hid hst
     have HSD:=Lib.hid hsd
     have HDD:=Lib.hid hdd
     have HSK:Hid (wkind s st=wk s V0 root j):=Lib.hid (by unfold wk;rw[hst])
     have hkd:wk s V0 root j=if nth st.ed (st.d / 2)=0 then (if getB st.mt (vtx s (st.d ^^^ 1))=true then 2 else 0) else if nth st.ed (st.d / 2)=1 then 1 else 3:=by
      rw[←HSK.out];rfl
     have hed:wed s st=if nth st.ed (st.d / 2)=0 then st.ed.set (st.d / 2) (((wk s V0 root j:Nat):Int)+1) else st.ed:=by
      rw[←HSK.out];rfl
     have hmt:wmt s st=if wk s V0 root j=0 then st.mt.set (vtx s (st.d ^^^ 1)) true else st.mt:=by
      rw[←HSK.out];rfl
     rw[hsd] at hvals hkd hed hmt
     have hf1:=HF1.out (d / 2)
     have hf2:=HF2.out (vtx s (d ^^^ 1))
     obtain⟨x,hx⟩:∃ x,d ^^^ 1=x:=⟨_,rfl⟩
     rw[hx] at hxl hvxl hvx hkd hmt hf2 hvb2
     have HXe:=Lib.hid hx
     obtain⟨v,hvv⟩:∃ v,vtx s x=v:=⟨_,rfl⟩
     rw[hvv] at hvxl hvx hkd hmt hf2 hvb2
     obtain⟨_,_,eV,hcx⟩:=(HFV.out.ev HEa.out).1.cell (i:=x) (by rw[HNl.out];exact hxl)
     cases eV
     rw[hvx] at hcx
     have hq:(d:Int) / 2=((d / 2:Nat):Int):=by omega
     have hhl:d / 2<st.ed.length:=by rw[hel,HL.out];have:=HEv.out;rw[HL.out] at this;omega
     have hvml:v<st.mt.length:=by rw[hml];exact hvxl
     obtain⟨h,hh⟩:∃ h,d / 2=h:=⟨_,rfl⟩
     rw[hh] at hq hvals hkd hed hf1 hhl
     have hhb:h≤131073:=by omega
     have hdb:d≤131073:=by omega
     have hLK1:=HMa.out.lookOk (h:Int) (by omega)
     have hLK2:=HMb.out.look (v:Int) (by omega)
     obtain⟨LD,hLD⟩:∃ L,dartsW s V0 root j=L:=⟨_,rfl⟩
     obtain⟨LK,hLK⟩:∃ L,kindsW s V0 root j=L:=⟨_,rfl⟩
     have HLd:Hid (LD.length≤8388607):=Lib.hid (by rw[←hLD,dartsW_length];omega)
     have HLk:Hid (LK.length≤8388607):=Lib.hid (by rw[←hLK,kindsW_length];omega)
     rw[hLD] at HOd
     rw[hLK] at HOk
     have HLD:=Lib.hid hLD
     have HLK:=Lib.hid hLK
     rw[hdd]
     have HED:=Lib.hid hed
     have HMT:=Lib.hid hmt
     have HHL:=Lib.hid hhl
     have HVM:=Lib.hid hvml
     clear hI hst hdd hsd hel hml hvx hx hvv hh hLD hLK hed hmt hhl hvml
     obtain⟨c,hc⟩:∃ c,nth st.ed h=c:=⟨_,rfl⟩
     rw[hc] at hvals hkd hf1
     have HC:=Lib.hid hc
     clear hc
     rcases hvals with rfl|rfl|rfl
     ·rw[if_pos rfl] at hf1 hkd
      rw[hf1] at hLK1
      simp only[Option.getD_none,Option.isSome_none] at hLK1
      by_cases hm:getB st.mt v=true
      ·rw[if_pos hm] at hkd hf2
       rw[hf2] at hLK2
       have HKK:=Lib.hid hkd
       have HFX:=Lib.hid hf1
       have HF2n:Hid (MetOf f2 (wmt s st)):=Lib.hid (by rw[HMT.out,if_neg (by rw[hkd];decide)];exact HF2.out)
       have HF1n:Hid (FirstOf (updF f1 (h:Int) 2) (wed s st)):=Lib.hid (by
        rw[HED.out,if_pos HC.out,hkd];exact HF1.out.put HHL.out 2)
       clear hf1 hf2 hkd hm HF1 HF2
       have HF1:=HF1n
       have HF2:=HF2n
       go_upto_region 25 with (first|(go_at_call 81;refine (rmate_any _ d (by omega)).mono ?_;rintro e w9 ⟨rfl,rfl⟩;rw[HXe.out])|(at_mapUpdate;refine wpList_fput rfl _ _ _ rfl HMa.out (by omega) (h:Int) 2 rfl rfl rfl (by omega) (by omega) ?_;intro wb hmu hgu)|fail)
       have HMa':=Lib.hid hmu
       have HMb':=Lib.hid (HMb.out.kept hgu (by simp))
       have HEa':=Lib.hid (HEa.out.mput HMa.out (by have:=HB1.out;omega) hgu)
       have HOd':=Lib.hid (HOd.out.kept hgu (Or.inr fun e=>by have:=(HOd.out.lt _ e).1;omega))
       have HOk':=Lib.hid (HOk.out.kept hgu (Or.inr fun e=>by have:=(HOk.out.lt _ e).1;omega))
       have hz':w4.heap.size≤wb.heap.size:=Nat.le_trans hz hgu.size
       clear hmu hgu HMa HMb HEa HOd HOk hz hLK1 hLK2 hcx
       have HMa:=HMa'
       clear HMa'
       have HMb:=HMb'
       clear HMb'
       have HEa:=HEa'
       clear HEa'
       have HOd:=HOd'
       clear HOd'
       have HOk:=HOk'
       clear HOk'
       have hz:=hz'
       clear hz'
       obtain⟨wa,hwa⟩:∃ wa,wa=wb:=⟨_,rfl⟩
       subst hwa
       have hnA:n1+1≤j+1:=by omega
       have hnB:n2≤j+1+1:=by omega
       have HE5:=Lib.hid (HEa.out.alloc (.cells #[.int .i64 (d:Int)] 3))
       have HO5:=Lib.hid (HOd.out.alloc (.cells #[.int .i64 (d:Int)] 3))
       go_wp2_with (at_builtin;refine wpList_app_int (R:=R) (B:=w4.heap.size) rfl _ _ rfl HO5.out rfl ⟨wa.heap.size,0,none⟩ 1 (d:Int) rfl ?a2a ?a2b ?a2c ?a2d ?_)
       case a2a=>simp
       case a2b=>exact HLd.out
       case a2c=>first|omega|(simp;omega)
       case a2d=>exact fun q hq=>HE5.out.inv.none_of_ge (by simp at hq ⊢;omega)
       intro v6 w6 ho6 hg6 hs6
       obtain⟨a6,c6,rfl,_⟩:=ho6.ints.open
       obtain⟨l6,hl6⟩:∃ l,(LD ++ [(d:Int)]).length=l:=⟨_,rfl⟩
       rw[hl6] at ho6 hs6
       try rw[hl6]
       clear hl6
       have HE6:=Lib.hid (HE5.out.app HO5.out hz24 hg6)
       have HM1f:=Lib.hid ((HMa.out.alloc (.cells #[.int .i64 (d:Int)] 3)).kept hg6 (fun e=>by have:=(HO5.out.lt _ e).1;omega))
       have HM2f:=Lib.hid ((HMb.out.alloc (.cells #[.int .i64 (d:Int)] 3)).kept hg6 (fun e=>by have:=(HO5.out.lt _ e).1;omega))
       have HOk6:=Lib.hid (((HOk.out.alloc (.cells #[.int .i64 (d:Int)] 3)).kept hg6 (dis_neI HDs.out)).alloc (.cells #[.int .i64 2] 3))
       have HDs6:Hid (∀ k,(Value.slice a6 l6 c6).ownBlock=some k→(Value.slice a14 m14 c14).ownBlock≠some k):=Lib.hid fun k h1 h2=>by
        rcases hs6 k h1 with h|h
        ·exact HDs.out k h h2
        ·have:=(HOk.out.lt k h2).2
         try simp at h
         omega
       have HOd6:=Lib.hid (ho6.alloc (.cells #[.int .i64 2] 3))
       have HE7:=Lib.hid (HE6.out.alloc (.cells #[.int .i64 2] 3))
       have hz6:w4.heap.size≤w6.heap.size:=by have:=hg6.size;simp at this;omega
       clear ho6 hg6 hs6
       go_wp2_with (at_builtin;refine wpList_app_int (R:=R) (B:=w4.heap.size) rfl _ _ rfl HOk6.out rfl ⟨w6.heap.size,0,none⟩ 1 2 rfl ?b2a ?b2b ?b2c ?b2d ?_)
       case b2a=>simp
       case b2b=>exact HLk.out
       case b2c=>first|omega|(simp;omega)
       case b2d=>exact fun q hq=>HE7.out.inv.none_of_ge (by simp at hq ⊢;omega)
       intro v8 w8 ho8 hg8 hs8
       obtain⟨a8,c8,rfl,_⟩:=ho8.ints.open
       obtain⟨l8,hl8⟩:∃ l,(LK ++ [(2:Int)]).length=l:=⟨_,rfl⟩
       rw[hl8] at ho8 hs8
       try rw[hl8]
       clear hl8
       have HE8:=Lib.hid (HE7.out.app HOk6.out hz24 hg8)
       have HM1g:=Lib.hid ((HM1f.out.alloc (.cells #[.int .i64 2] 3)).kept hg8 (fun e=>by have:=(HOk6.out.lt _ e).1;omega))
       have HM2g:=Lib.hid ((HM2f.out.alloc (.cells #[.int .i64 2] 3)).kept hg8 (fun e=>by have:=(HOk6.out.lt _ e).1;omega))
       have HOd8:=Lib.hid (HOd6.out.kept hg8 (dis_neI fun k h1 h2=>HDs6.out k h2 h1))
       have HDs8:Hid (∀ k,(Value.slice a6 l6 c6).ownBlock=some k→(Value.slice a8 l8 c8).ownBlock≠some k):=Lib.hid fun k h1 h2=>by
        rcases hs8 k h2 with h|h
        ·exact HDs6.out k h1 h
        ·have:=(HOd6.out.lt k h1).2
         simp at h this
         omega
       have HOk8:=Lib.hid ho8
       have hz8:w4.heap.size≤w8.heap.size:=by have:=hg8.size;simp at this;omega
       clear ho8 hg8 hs8
       have hwn:wd s V0 root (j+1)=at' s d:=by
        have e:wd s V0 root (j+1)=wdart s (wst s V0 root j):=rfl
        rw[e,HST.out];unfold wdart;rw[HSK.out,HKK.out,HSD.out];rfl
       obtain⟨z0,_,_⟩:=HX.out R w8 (HA2.out.trans HE8.out)
       obtain⟨bS,oS,eS,hcS⟩:=((HF.out.ev HE2.out).ev HE8.out).1.cell (i:=d) (by rw[toI_length,HL.out];exact hdl)
       rw[toI_nth] at hcS
       have HWN:=Lib.hid hwn
       obtain⟨nx,hnx⟩:∃ y,at' s d=y:=⟨_,rfl⟩
       rw[hnx] at hcS HWN
       subst eS
       clear hwn hnx
       have HSTP:Hid ((wst s V0 root (j+1)).ed=wed s st∧(wst s V0 root (j+1)).mt=wmt s st):=Lib.hid (by
        have e:wst s V0 root (j+1)=wnext s (wst s V0 root j):=rfl
        rw[e,HST.out];exact⟨rfl,rfl⟩)
       go_wp2_with fail
       go_roundg (P-(j+1))
       case measure=>omega
       case rel=>exact⟨j+1,_,_,_,_,_,_,_,_,_,_,_,_,by omega,by omega,hnA,hnB,rfl,rfl,by rw[HWN.out],HE8.out,hz8,HM1g.out,HM2g.out,by rw[dartsW_succ,HLD.out,HDD.out];exact HOd8.out,by rw[kindsW_succ,HLK.out,HKK.out];exact HOk8.out,HDs8.out,trivial,trivial,by rw[HSTP.out.1];exact HF1.out,by rw[HSTP.out.2];exact HF2.out⟩
      ·rw[if_neg hm] at hkd hf2
       rw[hf2] at hLK2
       have HKK:=Lib.hid hkd
       have HF2n:Hid (MetOf (updF f2 (v:Int) 1) (wmt s st)):=Lib.hid (by rw[HMT.out,if_pos hkd];exact HF2.out.put HVM.out)
       have HF1n:Hid (FirstOf (updF f1 (h:Int) 0) (wed s st)):=Lib.hid (by
        rw[HED.out,if_pos HC.out,hkd];exact HF1.out.put HHL.out 0)
       clear hf1 hf2 hkd hm HF1 HF2
       have HF1:=HF1n
       have HF2:=HF2n
       go_upto_region 22 with (first|(go_at_call 81;refine (rmate_any _ d (by omega)).mono ?_;rintro e w9 ⟨rfl,rfl⟩;rw[HXe.out])|(at_mapUpdate;refine wpList_fput rfl _ _ _ rfl HMb.out (by omega) (v:Int) 1 rfl rfl rfl (by omega) (by omega) ?_;intro wb hmu hgu)|fail)
       have HMb':=Lib.hid hmu
       have HMa':=Lib.hid (HMa.out.kept hgu (by simp))
       have HEa':=Lib.hid (HEa.out.mput HMb.out (by have:=HB1.out;omega) hgu)
       have HOd':=Lib.hid (HOd.out.kept hgu (Or.inr fun e=>by have:=(HOd.out.lt _ e).1;omega))
       have HOk':=Lib.hid (HOk.out.kept hgu (Or.inr fun e=>by have:=(HOk.out.lt _ e).1;omega))
       have hz':w4.heap.size≤wb.heap.size:=Nat.le_trans hz hgu.size
       clear hmu hgu HMa HMb HEa HOd HOk hz hLK1 hLK2 hcx
       have HMa:=HMa'
       clear HMa'
       have HMb:=HMb'
       clear HMb'
       have HEa:=HEa'
       clear HEa'
       have HOd:=HOd'
       clear HOd'
       have HOk:=HOk'
       clear HOk'
       have hz:=hz'
       clear hz'
       go_upto_region 25 with (first|(at_mapUpdate;refine wpList_fput rfl _ _ _ rfl HMa.out (by omega) (h:Int) 0 rfl rfl rfl (by omega) (by omega) ?_;intro wc hmu hgu)|fail)
       have HMa':=Lib.hid hmu
       have HMb':=Lib.hid (HMb.out.kept hgu (by simp))
       have HEa':=Lib.hid (HEa.out.mput HMa.out (by have:=HB1.out;omega) hgu)
       have HOd':=Lib.hid (HOd.out.kept hgu (Or.inr fun e=>by have:=(HOd.out.lt _ e).1;omega))
       have HOk':=Lib.hid (HOk.out.kept hgu (Or.inr fun e=>by have:=(HOk.out.lt _ e).1;omega))
       have hz':w4.heap.size≤wc.heap.size:=Nat.le_trans hz hgu.size
       clear hmu hgu HMa HMb HEa HOd HOk hz
       have HMa:=HMa'
       clear HMa'
       have HMb:=HMb'
       clear HMb'
       have HEa:=HEa'
       clear HEa'
       have HOd:=HOd'
       clear HOd'
       have HOk:=HOk'
       clear HOk'
       have hz:=hz'
       clear hz'
       obtain⟨wa,hwa⟩:∃ wa,wa=wc:=⟨_,rfl⟩
       subst hwa
       have hnA:n1+1≤j+1:=by omega
       have hnB:n2+1≤j+1+1:=by omega
       have HE5:=Lib.hid (HEa.out.alloc (.cells #[.int .i64 (d:Int)] 3))
       have HO5:=Lib.hid (HOd.out.alloc (.cells #[.int .i64 (d:Int)] 3))
       go_wp2_with (at_builtin;refine wpList_app_int (R:=R) (B:=w4.heap.size) rfl _ _ rfl HO5.out rfl ⟨wa.heap.size,0,none⟩ 1 (d:Int) rfl ?a0a ?a0b ?a0c ?a0d ?_)
       case a0a=>simp
       case a0b=>exact HLd.out
       case a0c=>first|omega|(simp;omega)
       case a0d=>exact fun q hq=>HE5.out.inv.none_of_ge (by simp at hq ⊢;omega)
       intro v6 w6 ho6 hg6 hs6
       obtain⟨a6,c6,rfl,_⟩:=ho6.ints.open
       obtain⟨l6,hl6⟩:∃ l,(LD ++ [(d:Int)]).length=l:=⟨_,rfl⟩
       rw[hl6] at ho6 hs6
       try rw[hl6]
       clear hl6
       have HE6:=Lib.hid (HE5.out.app HO5.out hz24 hg6)
       have HM1f:=Lib.hid ((HMa.out.alloc (.cells #[.int .i64 (d:Int)] 3)).kept hg6 (fun e=>by have:=(HO5.out.lt _ e).1;omega))
       have HM2f:=Lib.hid ((HMb.out.alloc (.cells #[.int .i64 (d:Int)] 3)).kept hg6 (fun e=>by have:=(HO5.out.lt _ e).1;omega))
       have HOk6:=Lib.hid (((HOk.out.alloc (.cells #[.int .i64 (d:Int)] 3)).kept hg6 (dis_neI HDs.out)).alloc (.cells #[.int .i64 0] 3))
       have HDs6:Hid (∀ k,(Value.slice a6 l6 c6).ownBlock=some k→(Value.slice a14 m14 c14).ownBlock≠some k):=Lib.hid fun k h1 h2=>by
        rcases hs6 k h1 with h|h
        ·exact HDs.out k h h2
        ·have:=(HOk.out.lt k h2).2
         try simp at h
         omega
       have HOd6:=Lib.hid (ho6.alloc (.cells #[.int .i64 0] 3))
       have HE7:=Lib.hid (HE6.out.alloc (.cells #[.int .i64 0] 3))
       have hz6:w4.heap.size≤w6.heap.size:=by have:=hg6.size;simp at this;omega
       clear ho6 hg6 hs6
       go_wp2_with (at_builtin;refine wpList_app_int (R:=R) (B:=w4.heap.size) rfl _ _ rfl HOk6.out rfl ⟨w6.heap.size,0,none⟩ 1 0 rfl ?b0a ?b0b ?b0c ?b0d ?_)
       case b0a=>simp
       case b0b=>exact HLk.out
       case b0c=>first|omega|(simp;omega)
       case b0d=>exact fun q hq=>HE7.out.inv.none_of_ge (by simp at hq ⊢;omega)
       intro v8 w8 ho8 hg8 hs8
       obtain⟨a8,c8,rfl,_⟩:=ho8.ints.open
       obtain⟨l8,hl8⟩:∃ l,(LK ++ [(0:Int)]).length=l:=⟨_,rfl⟩
       rw[hl8] at ho8 hs8
       try rw[hl8]
       clear hl8
       have HE8:=Lib.hid (HE7.out.app HOk6.out hz24 hg8)
       have HM1g:=Lib.hid ((HM1f.out.alloc (.cells #[.int .i64 0] 3)).kept hg8 (fun e=>by have:=(HOk6.out.lt _ e).1;omega))
       have HM2g:=Lib.hid ((HM2f.out.alloc (.cells #[.int .i64 0] 3)).kept hg8 (fun e=>by have:=(HOk6.out.lt _ e).1;omega))
       have HOd8:=Lib.hid (HOd6.out.kept hg8 (dis_neI fun k h1 h2=>HDs6.out k h2 h1))
       have HDs8:Hid (∀ k,(Value.slice a6 l6 c6).ownBlock=some k→(Value.slice a8 l8 c8).ownBlock≠some k):=Lib.hid fun k h1 h2=>by
        rcases hs8 k h2 with h|h
        ·exact HDs6.out k h1 h
        ·have:=(HOd6.out.lt k h1).2
         simp at h this
         omega
       have HOk8:=Lib.hid ho8
       have hz8:w4.heap.size≤w8.heap.size:=by have:=hg8.size;simp at this;omega
       clear ho8 hg8 hs8
       have hwn:wd s V0 root (j+1)=at' s x:=by
        have e:wd s V0 root (j+1)=wdart s (wst s V0 root j):=rfl
        rw[e,HST.out];unfold wdart;rw[HSK.out,HKK.out,HSD.out,HXe.out];rfl
       obtain⟨z0,_,_⟩:=HX.out R w8 (HA2.out.trans HE8.out)
       obtain⟨bS,oS,eS,hcS⟩:=((HF.out.ev HE2.out).ev HE8.out).1.cell (i:=x) (by rw[toI_length,HL.out];exact hxl)
       rw[toI_nth] at hcS
       have HWN:=Lib.hid hwn
       obtain⟨nx,hnx⟩:∃ y,at' s x=y:=⟨_,rfl⟩
       rw[hnx] at hcS HWN
       subst eS
       clear hwn hnx
       have HSTP:Hid ((wst s V0 root (j+1)).ed=wed s st∧(wst s V0 root (j+1)).mt=wmt s st):=Lib.hid (by
        have e:wst s V0 root (j+1)=wnext s (wst s V0 root j):=rfl
        rw[e,HST.out];exact⟨rfl,rfl⟩)
       go_wp2_with fail
       refine (rmate_any _ d (by omega)).mono ?_
       rintro e w9 ⟨rfl,rfl⟩
       rw[HXe.out]
       go_wp2_with fail
       go_roundg (P-(j+1))
       case measure=>omega
       case rel=>exact⟨j+1,_,_,_,_,_,_,_,_,_,_,_,_,by omega,by omega,hnA,hnB,rfl,rfl,by rw[HWN.out],HE8.out,hz8,HM1g.out,HM2g.out,by rw[dartsW_succ,HLD.out,HDD.out];exact HOd8.out,by rw[kindsW_succ,HLK.out,HKK.out];exact HOk8.out,HDs8.out,trivial,trivial,by rw[HSTP.out.1];exact HF1.out,by rw[HSTP.out.2];exact HF2.out⟩
     ·rw[if_neg (by decide)] at hf1 hkd
      rw[if_pos rfl] at hkd
      rw[hf1] at hLK1
      simp only[Option.getD_some,Option.isSome_some] at hLK1
      have HKK:=Lib.hid hkd
      have HF2n:Hid (MetOf f2 (wmt s st)):=Lib.hid (by rw[HMT.out,if_neg (by rw[hkd];decide)];exact HF2.out)
      have HF1n:Hid (FirstOf f1 (wed s st)):=Lib.hid (by rw[HED.out,if_neg (by rw[HC.out];decide)];exact HF1.out)
      clear hf1 hf2 hkd HF1 HF2 hLK2 hcx
      have HF1:=HF1n
      have HF2:=HF2n
      have hnA:n1≤j+1:=by omega
      have hnB:n2≤j+1+1:=by omega
      have hLK1':(Instr.lookup 157 (.map (some b1)) (.int .i64 (h:Int)) true).run Tryz.prog wa=.ok (.tuple #[.int .i64 0,.bool true]) wa:=hLK1
      clear hLK1
      have HE5:=Lib.hid (HEa.out.alloc (.cells #[.int .i64 (d:Int)] 3))
      have HO5:=Lib.hid (HOd.out.alloc (.cells #[.int .i64 (d:Int)] 3))
      go_wp2_with (at_builtin;refine wpList_app_int (R:=R) (B:=w4.heap.size) rfl _ _ rfl HO5.out rfl ⟨wa.heap.size,0,none⟩ 1 (d:Int) rfl ?a1a ?a1b ?a1c ?a1d ?_)
      case a1a=>simp
      case a1b=>exact HLd.out
      case a1c=>first|omega|(simp;omega)
      case a1d=>exact fun q hq=>HE5.out.inv.none_of_ge (by simp at hq ⊢;omega)
      intro v6 w6 ho6 hg6 hs6
      obtain⟨a6,c6,rfl,_⟩:=ho6.ints.open
      obtain⟨l6,hl6⟩:∃ l,(LD ++ [(d:Int)]).length=l:=⟨_,rfl⟩
      rw[hl6] at ho6 hs6
      try rw[hl6]
      clear hl6
      have HE6:=Lib.hid (HE5.out.app HO5.out hz24 hg6)
      have HM1f:=Lib.hid ((HMa.out.alloc (.cells #[.int .i64 (d:Int)] 3)).kept hg6 (fun e=>by have:=(HO5.out.lt _ e).1;omega))
      have HM2f:=Lib.hid ((HMb.out.alloc (.cells #[.int .i64 (d:Int)] 3)).kept hg6 (fun e=>by have:=(HO5.out.lt _ e).1;omega))
      have HOk6:=Lib.hid (((HOk.out.alloc (.cells #[.int .i64 (d:Int)] 3)).kept hg6 (dis_neI HDs.out)).alloc (.cells #[.int .i64 1] 3))
      have HDs6:Hid (∀ k,(Value.slice a6 l6 c6).ownBlock=some k→(Value.slice a14 m14 c14).ownBlock≠some k):=Lib.hid fun k h1 h2=>by
       rcases hs6 k h1 with h|h
       ·exact HDs.out k h h2
       ·have:=(HOk.out.lt k h2).2
        try simp at h
        omega
      have HOd6:=Lib.hid (ho6.alloc (.cells #[.int .i64 1] 3))
      have HE7:=Lib.hid (HE6.out.alloc (.cells #[.int .i64 1] 3))
      have hz6:w4.heap.size≤w6.heap.size:=by have:=hg6.size;simp at this;omega
      clear ho6 hg6 hs6
      go_wp2_with (at_builtin;refine wpList_app_int (R:=R) (B:=w4.heap.size) rfl _ _ rfl HOk6.out rfl ⟨w6.heap.size,0,none⟩ 1 1 rfl ?b1a ?b1b ?b1c ?b1d ?_)
      case b1a=>simp
      case b1b=>exact HLk.out
      case b1c=>first|omega|(simp;omega)
      case b1d=>exact fun q hq=>HE7.out.inv.none_of_ge (by simp at hq ⊢;omega)
      intro v8 w8 ho8 hg8 hs8
      obtain⟨a8,c8,rfl,_⟩:=ho8.ints.open
      obtain⟨l8,hl8⟩:∃ l,(LK ++ [(1:Int)]).length=l:=⟨_,rfl⟩
      rw[hl8] at ho8 hs8
      try rw[hl8]
      clear hl8
      have HE8:=Lib.hid (HE7.out.app HOk6.out hz24 hg8)
      have HM1g:=Lib.hid ((HM1f.out.alloc (.cells #[.int .i64 1] 3)).kept hg8 (fun e=>by have:=(HOk6.out.lt _ e).1;omega))
      have HM2g:=Lib.hid ((HM2f.out.alloc (.cells #[.int .i64 1] 3)).kept hg8 (fun e=>by have:=(HOk6.out.lt _ e).1;omega))
      have HOd8:=Lib.hid (HOd6.out.kept hg8 (dis_neI fun k h1 h2=>HDs6.out k h2 h1))
      have HDs8:Hid (∀ k,(Value.slice a6 l6 c6).ownBlock=some k→(Value.slice a8 l8 c8).ownBlock≠some k):=Lib.hid fun k h1 h2=>by
       rcases hs8 k h2 with h|h
       ·exact HDs6.out k h1 h
       ·have:=(HOd6.out.lt k h1).2
        simp at h this
        omega
      have HOk8:=Lib.hid ho8
      have hz8:w4.heap.size≤w8.heap.size:=by have:=hg8.size;simp at this;omega
      clear ho8 hg8 hs8
      have hwn:wd s V0 root (j+1)=at' s x:=by
       have e:wd s V0 root (j+1)=wdart s (wst s V0 root j):=rfl
       rw[e,HST.out];unfold wdart;rw[HSK.out,HKK.out,HSD.out,HXe.out];rfl
      obtain⟨z0,_,_⟩:=HX.out R w8 (HA2.out.trans HE8.out)
      obtain⟨bS,oS,eS,hcS⟩:=((HF.out.ev HE2.out).ev HE8.out).1.cell (i:=x) (by rw[toI_length,HL.out];exact hxl)
      rw[toI_nth] at hcS
      have HWN:=Lib.hid hwn
      obtain⟨nx,hnx⟩:∃ y,at' s x=y:=⟨_,rfl⟩
      rw[hnx] at hcS HWN
      subst eS
      clear hwn hnx
      have HSTP:Hid ((wst s V0 root (j+1)).ed=wed s st∧(wst s V0 root (j+1)).mt=wmt s st):=Lib.hid (by
       have e:wst s V0 root (j+1)=wnext s (wst s V0 root j):=rfl
       rw[e,HST.out];exact⟨rfl,rfl⟩)
      go_wp2_with fail
      refine (rmate_any _ d (by omega)).mono ?_
      rintro e w9 ⟨rfl,rfl⟩
      rw[HXe.out]
      go_wp2_with fail
      go_roundg (P-(j+1))
      case measure=>omega
      case rel=>exact⟨j+1,_,_,_,_,_,_,_,_,_,_,_,_,by omega,by omega,hnA,hnB,rfl,rfl,by rw[HWN.out],HE8.out,hz8,HM1g.out,HM2g.out,by rw[dartsW_succ,HLD.out,HDD.out];exact HOd8.out,by rw[kindsW_succ,HLK.out,HKK.out];exact HOk8.out,HDs8.out,trivial,trivial,by rw[HSTP.out.1];exact HF1.out,by rw[HSTP.out.2];exact HF2.out⟩
     ·rw[if_neg (by decide)] at hf1 hkd
      rw[if_neg (by decide)] at hkd
      rw[hf1] at hLK1
      simp only[Option.getD_some,Option.isSome_some] at hLK1
      have HKK:=Lib.hid hkd
      have HF2n:Hid (MetOf f2 (wmt s st)):=Lib.hid (by rw[HMT.out,if_neg (by rw[hkd];decide)];exact HF2.out)
      have HF1n:Hid (FirstOf f1 (wed s st)):=Lib.hid (by rw[HED.out,if_neg (by rw[HC.out];decide)];exact HF1.out)
      clear hf1 hf2 hkd HF1 HF2 hLK2 hcx
      have HF1:=HF1n
      have HF2:=HF2n
      have hnA:n1≤j+1:=by omega
      have hnB:n2≤j+1+1:=by omega
      have hLK1':(Instr.lookup 157 (.map (some b1)) (.int .i64 (h:Int)) true).run Tryz.prog wa=.ok (.tuple #[.int .i64 2,.bool true]) wa:=hLK1
      clear hLK1
      have HE5:=Lib.hid (HEa.out.alloc (.cells #[.int .i64 (d:Int)] 3))
      have HO5:=Lib.hid (HOd.out.alloc (.cells #[.int .i64 (d:Int)] 3))
      go_wp2_with (at_builtin;refine wpList_app_int (R:=R) (B:=w4.heap.size) rfl _ _ rfl HO5.out rfl ⟨wa.heap.size,0,none⟩ 1 (d:Int) rfl ?a3a ?a3b ?a3c ?a3d ?_)
      case a3a=>simp
      case a3b=>exact HLd.out
      case a3c=>first|omega|(simp;omega)
      case a3d=>exact fun q hq=>HE5.out.inv.none_of_ge (by simp at hq ⊢;omega)
      intro v6 w6 ho6 hg6 hs6
      obtain⟨a6,c6,rfl,_⟩:=ho6.ints.open
      obtain⟨l6,hl6⟩:∃ l,(LD ++ [(d:Int)]).length=l:=⟨_,rfl⟩
      rw[hl6] at ho6 hs6
      try rw[hl6]
      clear hl6
      have HE6:=Lib.hid (HE5.out.app HO5.out hz24 hg6)
      have HM1f:=Lib.hid ((HMa.out.alloc (.cells #[.int .i64 (d:Int)] 3)).kept hg6 (fun e=>by have:=(HO5.out.lt _ e).1;omega))
      have HM2f:=Lib.hid ((HMb.out.alloc (.cells #[.int .i64 (d:Int)] 3)).kept hg6 (fun e=>by have:=(HO5.out.lt _ e).1;omega))
      have HOk6:=Lib.hid (((HOk.out.alloc (.cells #[.int .i64 (d:Int)] 3)).kept hg6 (dis_neI HDs.out)).alloc (.cells #[.int .i64 3] 3))
      have HDs6:Hid (∀ k,(Value.slice a6 l6 c6).ownBlock=some k→(Value.slice a14 m14 c14).ownBlock≠some k):=Lib.hid fun k h1 h2=>by
       rcases hs6 k h1 with h|h
       ·exact HDs.out k h h2
       ·have:=(HOk.out.lt k h2).2
        try simp at h
        omega
      have HOd6:=Lib.hid (ho6.alloc (.cells #[.int .i64 3] 3))
      have HE7:=Lib.hid (HE6.out.alloc (.cells #[.int .i64 3] 3))
      have hz6:w4.heap.size≤w6.heap.size:=by have:=hg6.size;simp at this;omega
      clear ho6 hg6 hs6
      go_wp2_with (at_builtin;refine wpList_app_int (R:=R) (B:=w4.heap.size) rfl _ _ rfl HOk6.out rfl ⟨w6.heap.size,0,none⟩ 1 3 rfl ?b3a ?b3b ?b3c ?b3d ?_)
      case b3a=>simp
      case b3b=>exact HLk.out
      case b3c=>first|omega|(simp;omega)
      case b3d=>exact fun q hq=>HE7.out.inv.none_of_ge (by simp at hq ⊢;omega)
      intro v8 w8 ho8 hg8 hs8
      obtain⟨a8,c8,rfl,_⟩:=ho8.ints.open
      obtain⟨l8,hl8⟩:∃ l,(LK ++ [(3:Int)]).length=l:=⟨_,rfl⟩
      rw[hl8] at ho8 hs8
      try rw[hl8]
      clear hl8
      have HE8:=Lib.hid (HE7.out.app HOk6.out hz24 hg8)
      have HM1g:=Lib.hid ((HM1f.out.alloc (.cells #[.int .i64 3] 3)).kept hg8 (fun e=>by have:=(HOk6.out.lt _ e).1;omega))
      have HM2g:=Lib.hid ((HM2f.out.alloc (.cells #[.int .i64 3] 3)).kept hg8 (fun e=>by have:=(HOk6.out.lt _ e).1;omega))
      have HOd8:=Lib.hid (HOd6.out.kept hg8 (dis_neI fun k h1 h2=>HDs6.out k h2 h1))
      have HDs8:Hid (∀ k,(Value.slice a6 l6 c6).ownBlock=some k→(Value.slice a8 l8 c8).ownBlock≠some k):=Lib.hid fun k h1 h2=>by
       rcases hs8 k h2 with h|h
       ·exact HDs6.out k h1 h
       ·have:=(HOd6.out.lt k h1).2
        simp at h this
        omega
      have HOk8:=Lib.hid ho8
      have hz8:w4.heap.size≤w8.heap.size:=by have:=hg8.size;simp at this;omega
      clear ho8 hg8 hs8
      have hwn:wd s V0 root (j+1)=at' s d:=by
       have e:wd s V0 root (j+1)=wdart s (wst s V0 root j):=rfl
       rw[e,HST.out];unfold wdart;rw[HSK.out,HKK.out,HSD.out];rfl
      obtain⟨z0,_,_⟩:=HX.out R w8 (HA2.out.trans HE8.out)
      obtain⟨bS,oS,eS,hcS⟩:=((HF.out.ev HE2.out).ev HE8.out).1.cell (i:=d) (by rw[toI_length,HL.out];exact hdl)
      rw[toI_nth] at hcS
      have HWN:=Lib.hid hwn
      obtain⟨nx,hnx⟩:∃ y,at' s d=y:=⟨_,rfl⟩
      rw[hnx] at hcS HWN
      subst eS
      clear hwn hnx
      have HSTP:Hid ((wst s V0 root (j+1)).ed=wed s st∧(wst s V0 root (j+1)).mt=wmt s st):=Lib.hid (by
       have e:wst s V0 root (j+1)=wnext s (wst s V0 root j):=rfl
       rw[e,HST.out];exact⟨rfl,rfl⟩)
      go_wp2_with fail
      go_roundg (P-(j+1))
      case measure=>omega
      case rel=>exact⟨j+1,_,_,_,_,_,_,_,_,_,_,_,_,by omega,by omega,hnA,hnB,rfl,rfl,by rw[HWN.out],HE8.out,hz8,HM1g.out,HM2g.out,by rw[dartsW_succ,HLD.out,HDD.out];exact HOd8.out,by rw[kindsW_succ,HLK.out,HKK.out];exact HOk8.out,HDs8.out,trivial,trivial,by rw[HSTP.out.1];exact HF1.out,by rw[HSTP.out.2];exact HF2.out⟩
    ·obtain rfl:j=P:=by omega
     have hlk:m14=j:=by rw[HOk.out.ints.length_eq,kindsW_length]
     subst hlk
     go_wp2_with fail
     go_ret2
     have e1:(dartsW s (sizesL s).length root (partC' s root)).length=m14:=by rw[dartsW_length,HP1.out]
     have e2:(kindsW s (sizesL s).length root (partC' s root)).length=m14:=by rw[kindsW_length,HP1.out]
     exact⟨a13,a14,c13,c14,by rw[e1,e2];rfl,HE2.out.trans HEa.out,by rw[e1,HV0.out,HP1.out];exact HOd.out.mono (by have:=HE2.out.size;omega),by rw[e2,HV0.out,HP1.out];exact HOk.out.mono (by have:=HE2.out.size;omega)⟩
end Go.Proofs.YtklkgicjfnbndaaGreat
