/- A map of pairs of numbers to how often they came, of the call's own. Conditions: none. -/
import Derived.Test.YtgphnkkdmlohlaaGreatDoorZWoodNo14
import Derived.Test.YtgphnkkdmlohlaaGreatDoorZWoodNo18
import Derived.DeepKeys5
import Derived.WideKeyPair
import Derived.WideKeyEntry
namespace Go.Proofs.YtgphnkkdmlohlaaGreatDoor
open Go.RowKit Go.Maps
open Go.ChangeMaps (setBlock heap_setBlock_same heap_setBlock_other)
set_option linter.unusedVariables false
theorem pair_law:WideMaps.KeyLaw Tryz.prog 147:=deep_law_gate (by kernel_rfl) (Nat.le_of_ble_eq_true (by kernel_rfl)) (Nat.le_of_ble_eq_true (by kernel_rfl)) (by kernel_rfl) (by kernel_rfl)
theorem pairKeyed:Keyed Tryz.prog 147:=Keyed.of_law pair_law
def pairV (x y:Int):Value:=.agg #[.int .i64 x,.int .i64 y]
def pairL (x y:Int):Lit:=.string (keyBytes [.int .i64 x,.int .i64 y])
theorem pair_kt:Tryz.prog.keyType 147=true:=by kernel_rfl
theorem pair_fm (x y:Int):(pairV x y).formed Tryz.prog 147=true:=by kernel_rfl
theorem pair_un:∃ m,Tryz.prog.types.size=m+1:=⟨Tryz.prog.types.size-1,(Nat.sub_add_cancel (Nat.le_of_ble_eq_true (by kernel_rfl))).symm⟩
theorem pair_co:Tryz.prog.cellsOf 147=2:=by kernel_rfl
theorem int_co:Tryz.prog.cellsOf 3=1:=by kernel_rfl
theorem pair_key {x y:Int} (hx:(Lit.int .i64 x).wf=true) (hy:(Lit.int .i64 y).wf=true):keyOf Tryz.prog 147 (pairV x y)=some (pairL x y):=by
 have hu:=Tryz.underlying147
 have hi:=Tryz.underlying3
 obtain⟨m,hm⟩:=pair_un
 unfold keyOf
 simp only[hu]
 rw[if_pos (by simp[pair_kt,pair_fm]),hm]
 unfold Program.keyLits pairV
 simp only[hu,Value.cells]
 rw[if_pos ⟨by rw[pair_co];rfl,by simp⟩]
 simp[int_co,Program.keyLits,hi,hx,hy,pairL]
theorem pairL_inj {x y x' y':Int} (hx:(Lit.int .i64 x).wf=true) (hy:(Lit.int .i64 y).wf=true) (hx':(Lit.int .i64 x').wf=true) (hy':(Lit.int .i64 y').wf=true) (h:pairL x y=pairL x' y'):x=x'∧y=y':=by
 have h1:=pair_key hx hy
 have h2:=pair_key hx' hy'
 rw[←h] at h2
 have:=pair_law.inj h1 h2
 unfold pairV at this
 simp at this
 exact this
def PairMap (R:Reg) (w:World) (b n:Nat) (f:Int→Int→Int):Prop:=
 R b=none∧∃ D:DataW Unit,w.ownsMap Tryz.prog 147 (plainElem Tryz.prog 3) b n D ∧
  ∀ x y:Int,(Lit.int .i64 x).wf=true→(Lit.int .i64 y).wf=true→D.atKey (pairL x y) (.lit (.int .i64 0))=.lit (.int .i64 (f x y))
theorem PairMap.lt {R:Reg} {w:World} {b n:Nat} {f:Int→Int→Int} (h:PairMap R w b n f):b<w.heap.size:=by
 obtain⟨_,D,h,_⟩:=h
 exact h.lt
theorem PairMap.ev {R R1:Reg} {w w1:World} {b n:Nat} {f:Int→Int→Int} (h:PairMap R w b n f) (he:Ev R w R1 w1):PairMap R1 w1 b n f:=by
 have hlt:=h.lt
 obtain⟨hb,D,⟨es,clock,h1,h2,h3,h4⟩,h5⟩:=h
 exact⟨he.free b hlt hb,D,⟨es,clock,(he.block b hlt hb).trans h1,h2,h3,h4⟩,h5⟩
theorem PairMap.made {R:Reg} {w:World} (hI:Inv R w):PairMap R (w.alloc (.map #[] 0)) w.heap.size 0 (fun _ _=>0):=by
 refine⟨hI.none_of_ge (Nat.le_refl _),.map [],World.ownsMap_made _ _ _ _,fun x y _ _=>?_⟩
 simp[DataW.atKey]
theorem setBlock_twice (w:World) (b:Nat) (o o':Obj):setBlock (setBlock w b o) b o'=setBlock w b o':=by
 simp[setBlock]
def pairUp (f:Int→Int→Int) (x y c u v:Int):Int:=if u=x∧v=y then c else f u v
theorem PairMap.bump {R:Reg} {w:World} {b n:Nat} {f:Int→Int→Int} (h:PairMap R w b n f) (hn:n<maxLen) {x y:Int} (hx:(Lit.int .i64 x).wf=true) (hy:(Lit.int .i64 y).wf=true) (hc:(Lit.int .i64 (f x y+1)).wf=true):
  ∃ (v0:Value) (st:Nat) (w1 w2:World),
   (Instr.lookup 145 (.map (some b)) (pairV x y) false).run Tryz.prog w=.ok (.int .i64 (f x y)) w ∧
   (Instr.mapEntry 145 (.map (some b)) (pairV x y)).run Tryz.prog w=.ok (.tuple #[v0,goInt st]) w1 ∧
   (Instr.lookup 145 (.map (some b)) (pairV x y) false).run Tryz.prog w1=.ok (.int .i64 (f x y)) w1 ∧
   (Instr.entryStore 145 (.map (some b)) (goInt st) (.int .i64 (f x y+1))).run Tryz.prog w1=.ok () w2 ∧
   PairMap R w2 b (n+1) (pairUp f x y (f x y+1))∧w.grownBy w2 (some b):=by
 obtain⟨hb,D,hown,hat⟩:=h
 have hkey:=pair_key hx hy
 have ht:=Tryz.underlying145
 have hz:∀ u:World,(zeroValue 3).run Tryz.prog u=.ok (.int .i64 0) u:=fun u=>by kernel_rfl
 have hw0:(Lit.int .i64 0).wf=true:=by decide
 have look:∀ {w':World} {m:Nat} {D':DataW Unit},w'.ownsMap Tryz.prog 147 (plainElem Tryz.prog 3) b m D'→∀ c,D'.atKey (pairL x y) (.lit (.int .i64 0))=.lit (.int .i64 c) →
   (Instr.lookup 145 (.map (some b)) (pairV x y) false).run Tryz.prog w'=.ok (.int .i64 c) w':=fun ho c hc=>by
  obtain⟨c',hrun,hat',_⟩:=ho.lookup_int pairKeyed ht Tryz.underlying3 (hz _) hkey
  rw[hc] at hat'
  simp only[DataW.lit.injEq,Lit.int.injEq,true_and] at hat'
  rw[hat'];exact hrun
 have F1:=look hown _ (hat x y hx hy)
 obtain⟨w2,hup,hown2,hg2⟩:=hown.update (t:=145) (e:=3) (val:=.int .i64 (f x y+1)) pairKeyed ht hn hkey (plainElem_int Tryz.underlying3 hc)
 obtain⟨w0,hup0,hown0,_⟩:=hown.update (t:=145) (e:=3) (val:=.int .i64 0) pairKeyed ht hn hkey (plainElem_int Tryz.underlying3 hw0)
 have hown':=hown
 obtain⟨es,clock,hbk,F,hs,hD⟩:=hown'
 have post:PairMap R w2 b (n+1) (pairUp f x y (f x y+1)):=⟨hb,_,hown2,fun u v hu hv=>by
  unfold pairUp
  by_cases e:u=x∧v=y
  ·obtain⟨rfl,rfl⟩:=e
   rw[if_pos ⟨rfl,rfl⟩,atKey_put_same hown.isMap (pairKeyed.key hkey)]
  ·rw[if_neg e,atKey_put_other (fun h=>e (pairL_inj hu hv hx hy h)),hat u v hu hv]⟩
 obtain⟨s1,s2,_⟩:=F.stamped
 rcases pair_law.find w hkey es.toList F.keys with ⟨h1,h2⟩|⟨j,e0,h1,h2,h3⟩
 ·have e1:w0=setBlock w b (.map (es.push ⟨pairV x y,.int .i64 0,clock⟩) (clock+1)):=by
   have:(Instr.mapUpdate 145 (.map (some b)) (pairV x y) (.int .i64 0)).run Tryz.prog w=.ok () (setBlock w b (.map (es.push ⟨pairV x y,.int .i64 0,clock⟩) (clock+1))):=by
    simp[Instr.mapUpdate,run_underlying ht,MapKept.run_getObj_map hbk,pair_law.check w false hkey,h1,MapKept.run_setObj_map _ hbk,Result.andThen,setBlock]
   exact (Result.ok.inj (hup0.symm.trans this)).2
  have hw0b:w0.heap[b]?=some (.map (es.push ⟨pairV x y,.int .i64 0,clock⟩) (clock+1)):=by rw[e1];exact heap_setBlock_same hbk _
  have e2:w2=setBlock w0 b (.map (es.push ⟨pairV x y,.int .i64 (f x y+1),clock⟩) (clock+1)):=by
   have:(Instr.mapUpdate 145 (.map (some b)) (pairV x y) (.int .i64 (f x y+1))).run Tryz.prog w=.ok () (setBlock w b (.map (es.push ⟨pairV x y,.int .i64 (f x y+1),clock⟩) (clock+1))):=by
    simp[Instr.mapUpdate,run_underlying ht,MapKept.run_getObj_map hbk,pair_law.check w false hkey,h1,MapKept.run_setObj_map _ hbk,Result.andThen,setBlock]
   rw[(Result.ok.inj (hup.symm.trans this)).2,e1,setBlock_twice]
  have hf0:f x y=0:=by
   rcases Maps.fit_look (t:=145) (e:=3) (z:=.int .i64 0) false pairKeyed ht (hz w) hbk F hkey with ⟨hrun,_,_⟩|⟨e0,y0,hm,hk,hrest⟩
   ·have h:=(Result.ok.inj (F1.symm.trans hrun)).1
    exact (Value.int.inj h).2
   ·exact absurd hk (h2 e0 hm)
  refine⟨.int .i64 0,clock,w0,w2,F1,?_,look hown0 _ (by rw[atKey_put_same hown.isMap (pairKeyed.key hkey),hf0]),?_,post,hg2⟩
  ·rw[e1]
   simp[Instr.mapEntry,run_underlying ht,MapKept.run_getObj_map hbk,pair_law.check w false hkey,h1,hz,MapKept.run_setObj_map _ hbk,Result.andThen,setBlock]
  ·rw[e2]
   have hidx:(es.push ⟨pairV x y,.int .i64 0,clock⟩).findIdx? (fun e=>((e.born:Nat):Int) == ((clock:Nat):Int))=some es.size:=by
    rw[WideElems.findIdx_arr]
    have:=WideElems.findIdx_born (l:=(es.push ⟨pairV x y,.int .i64 0,clock⟩).toList) (j:=es.size) (e0:=⟨pairV x y,.int .i64 0,clock⟩) (by
     simp only[Array.toList_push,List.map_append,List.map_cons,List.map_nil]
     refine List.nodup_append.2 ⟨s2,by simp,fun a ha c hc e1=>?_⟩
     simp only[List.mem_singleton] at hc
     obtain⟨z,hz,rfl⟩:=List.mem_map.1 ha
     have:=s1 z hz
     omega) (by simp)
    exact this
   have hmod:(es.push ⟨pairV x y,.int .i64 0,clock⟩).modify es.size (fun e=>{ e with val:=.int .i64 (f x y+1) })=es.push ⟨pairV x y,.int .i64 (f x y+1),clock⟩:=by
    apply Array.ext'
    rw[Array.toList_modify,Array.toList_push,Array.toList_push,←Array.length_toList,WideElems.modify_last]
   simp[Instr.entryStore,MapKept.run_getObj_map hw0b,asInt,asIntOf,goInt,hidx,hmod,MapKept.run_setObj_map _ hw0b,Result.andThen,setBlock]
 ·have hj:es[j]?=some e0:=by simpa using h2
  have hsame:es.modify j (fun e=>{ e with key:=pairV x y })=es:=by
   apply Array.ext'
   rw[Array.toList_modify,ChangeMaps.modify_eq_set _ _ _ _ h2]
   have:({ e0 with key:=pairV x y }:MapEntry)=e0:=by rw[←h3]
   rw[this]
   exact WideElems.set_self _ _ _ h2
  have hw0b:(setBlock w b (.map es clock)).heap[b]?=some (.map es clock):=heap_setBlock_same hbk _
  have hown1:(setBlock w b (.map es clock)).ownsMap Tryz.prog 147 (plainElem Tryz.prog 3) b n D:=⟨es,clock,hw0b,F,hs,hD⟩
  refine⟨e0.val,e0.born,setBlock w b (.map es clock),w2,F1,?_,look hown1 _ (hat x y hx hy),?_,post,hg2⟩
  ·simp[Instr.mapEntry,run_underlying ht,MapKept.run_getObj_map hbk,pair_law.check w false hkey,h1,hj,h3,pair_law.stays w hkey,hsame,MapKept.run_setObj_map _ hbk,Result.andThen,setBlock]
  ·have hidx:es.findIdx? (fun e=>((e.born:Nat):Int) == ((e0.born:Nat):Int))=some j:=by
    rw[WideElems.findIdx_arr]
    exact WideElems.findIdx_born s2 h2
   have hmod:es.modify j (fun e=>{ e with val:=.int .i64 (f x y+1) })=es.modify j (fun e'=>{ e' with key:=pairV x y,val:=.int .i64 (f x y+1) }):=by
    apply Array.ext'
    rw[Array.toList_modify,Array.toList_modify,ChangeMaps.modify_eq_set _ _ _ _ h2,ChangeMaps.modify_eq_set _ _ _ _ h2,←h3]
   have e2:w2=setBlock w b (.map (es.modify j (fun e'=>{ e' with key:=pairV x y,val:=.int .i64 (f x y+1) })) clock):=by
    have:(Instr.mapUpdate 145 (.map (some b)) (pairV x y) (.int .i64 (f x y+1))).run Tryz.prog w=.ok () (setBlock w b (.map (es.modify j (fun e'=>{ e' with key:=pairV x y,val:=.int .i64 (f x y+1) })) clock)):=by
     simp[Instr.mapUpdate,run_underlying ht,MapKept.run_getObj_map hbk,pair_law.check w false hkey,h1,hj,h3,pair_law.stays w hkey,MapKept.run_setObj_map _ hbk,Result.andThen,setBlock]
    exact (Result.ok.inj (hup.symm.trans this)).2
   have e3:w2=setBlock (setBlock w b (.map es clock)) b (.map (es.modify j (fun e=>{ e with val:=.int .i64 (f x y+1) })) clock):=by rw[setBlock_twice,hmod];exact e2
   rw[e3]
   clear e2 e3 hown1 F1 hup hup0 hown2 hg2 post
   generalize setBlock w b (.map es clock)=w1 at *
   simp[Instr.entryStore,MapKept.run_getObj_map hw0b,asInt,asIntOf,goInt,hidx,MapKept.run_setObj_map _ hw0b,Result.andThen,setBlock]
end Go.Proofs.YtgphnkkdmlohlaaGreatDoor
