/- script.Read: bytes, three by three. -/
import Derived.RangeFuncNested
import Derived.RangeFuncWrites
import Derived.Shelf.RegionOpen
import Derived.Test.YtklkgicjfnbndaaGreatZScriptDoes16
import Derived.Test.YtklkgicjfnbndaaGreatZScriptDoes13
import Derived.Test.YtklkgicjfnbndaaGreatZScriptDoes30
import Derived.Test.YtklkgicjfnbndaaGreatZScriptDoes31
namespace Go.Proofs.YtklkgicjfnbndaaGreat
section
open Go.RowKit Go.Shelf
set_option linter.unusedVariables false
set_option linter.unusedSimpArgs false
attribute [local go_sem] Oper.semAt_some
def actV (bs:List Nat) (j:Nat):Nat × Nat × Nat:=(at' bs (3*j) % 11,at' bs (3*j+1),at' bs (3*j+2))
def actsTo (bs:List Nat) (js:List Nat):List (Nat × Nat × Nat):=(js.filter fun j=>decide (3*j+3≤bs.length)).map (actV bs)
def actCs (l:List (Nat × Nat × Nat)):List Value:=l.flatMap fun q=>[.int .i64 (q.1:Int),.int .i64 (q.2.1:Int),.int .i64 (q.2.2:Int)]
theorem act_info:(Tryz.prog.info? 50).map (fun i=>(i.zero,i.size,i.bytes))=some (some (.agg #[.int .i64 0,.int .i64 0,.int .i64 0]),3,24):=by kernel_rfl
set_option maxRecDepth 100000 in
set_option maxHeartbeats 600000 in
theorem read_in (w:World) (b off len cap:Nat) (bs:List Nat) (hbs:bs.length=len) (hcap:len≤cap) (hlen:len≤1000) (hb:b<w.heap.size) (hc:∀ i,i<len→w.cell? ⟨b,off+i,none⟩=some (.int .u8 ((at' bs i:Nat):Int))∧at' bs i≤255):
  Calls Tryz.prog 39 #[.slice (some ⟨b,off,none⟩) len cap] w fun e W'=>∃ v js,e=.returned v∧W'.ownsRow w.heap.size 50 3 v (actsTo bs (List.range js)).length (actCs (actsTo bs (List.range js)))∧len≤3*js∧Below w.heap.size w W':=by
 rw[←callsIn_wide (n:=5)]
 refine callsIn_of_wp_marks Tryz.func39 rfl trivial ?_ rfl
 simp only[Tryz.ntmps39,List.size_toArray,List.length_cons,List.length_nil,Nat.reduceAdd,Nat.reduceSub,Array.replicate_succ,Array.replicate_zero,List.push_toArray,List.append_toArray,List.nil_append,List.cons_append]
 gi_wp2
 refine⟨trivial,?_⟩
 refine (callsIn_wide.2 (chunk_in _ _ _ _)).mono ?_
 rintro e w' ⟨rfl,rfl⟩
 simp only[World.size_alloc]
 gi_wp2
 have bO:=Boxed.new w 61 (.slice none 0 0)
 have hB0:Below w.heap.size w (((w.alloc (.cells #[.slice none 0 0] 61)).alloc (.cells #[.slice (some ⟨b,off,none⟩) len cap] 22)).alloc (.cells #[.int .i64 3] 3)):=(((Below.refl _ w).alloc (Nat.le_refl _) _).alloc (by simp) _).alloc (by simp;omega) _
 obtain⟨W0,hW0⟩:∃ x,((w.alloc (.cells #[.slice none 0 0] 61)).alloc (.cells #[.slice (some ⟨b,off,none⟩) len cap] 22)).alloc (.cells #[.int .i64 3] 3)=x:=⟨_,rfl⟩
 have hsz:W0.heap.size=w.heap.size+3:=by rw[←hW0];simp
 have hb1:W0.heap[w.heap.size+1]?=some (.cells #[.slice (some ⟨b,off,none⟩) len cap] 22 (0,0)):=by
  rw[←hW0]
  have h:=heap_alloc_new (w.alloc (.cells #[.slice none 0 0] 61)) (.cells #[.slice (some ⟨b,off,none⟩) len cap] 22)
  rw[World.size_alloc] at h
  exact (Below.heap_alloc _ _ _ (by simp)).trans h
 have hb2:W0.heap[w.heap.size+2]?=some (.cells #[.int .i64 3] 3 (0,0)):=by
  rw[←hW0]
  have h:=heap_alloc_new ((w.alloc (.cells #[.slice none 0 0] 61)).alloc (.cells #[.slice (some ⟨b,off,none⟩) len cap] 22)) (.cells #[.int .i64 3] 3)
  rw[World.size_alloc,World.size_alloc] at h
  exact h
 have hbO:Boxed W0 w.heap.size 61 (.slice none 0 0):=by rw[←hW0];exact (bO.alloc _).alloc _
 rw[hW0] at hB0 ⊢
 clear hW0 bO
 have hKb:∀ (W:World) (l:Nat) (o o':Obj),W0.heap.size≤l→W.heap[l]?=some o→o.isCells=false→o.isWalk=false→(Below w.heap.size W (W.putObj l o')∧∀ k,k=w.heap.size+1∨k=w.heap.size+2→(W.putObj l o').heap[k]?=W.heap[k]?):=fun W l o o' hl h h1 h2=>
  ⟨belowK_b (Nat.le_refl _) W l o o' (by omega) h h1 h2,fun k hk=>by
   have hlt:=(Array.getElem?_eq_some_iff.1 h).1
   exact (grownBy_putObj' W l o').block k (by omega) (by simp;omega)⟩
 refine wpIn_rangeFunc_ownG rfl (by decide) (gf:=126) (lb:=#[.pointer (some ⟨w.heap.size+1,0,none⟩),.pointer (some ⟨w.heap.size+2,0,none⟩)]) rfl trivial (enters_of Tryz.func126 (by kernel_rfl) rfl)
  (Kp:=fun A B=>Below w.heap.size A B∧∀ k,k=w.heap.size+1∨k=w.heap.size+2→B.heap[k]?=A.heap[k]?)
  (chunk_stops _ b off len cap hcap (by omega) W0 (w.heap.size+1) (w.heap.size+2) _ (fun A B o h ho=>World.cell?_of_block (a:=⟨o,0,none⟩) (h.2 o ho)) (by omega) (by omega) (cells_at hb1 0) (cells_at hb2 0))
  (fun h k=>⟨h.1.trans k.1,fun o ho=>(k.2 o ho).trans (h.2 o ho)⟩) hKb (Below.refl _ _) (fun _=>rfl)
  (fun pre W=>((∃ v,Boxed W w.heap.size 61 v∧W.ownsRow w.heap.size 50 3 v (actsTo bs (pre.map Subtype.val)).length (actCs (actsTo bs (pre.map Subtype.val)))∧(v=.slice none 0 0↔actsTo bs (pre.map Subtype.val)=[]))∧Boxed W (w.heap.size+1) 22 (.slice (some ⟨b,off,none⟩) len cap)∧Boxed W (w.heap.size+2) 3 (.int .i64 3))∧Below w.heap.size w W)
  (fun _ _ _=>False)
  (OwnFrom.and (OwnFrom.and (Own.from (holdsRow_own w.heap.size w.heap.size 61 50 3 (fun pre:List { j:Nat // 3*j<len }=>(actsTo bs (pre.map Subtype.val)).length) (fun pre=>actCs (actsTo bs (pre.map Subtype.val))) (fun pre v=>v=.slice none 0 0↔actsTo bs (pre.map Subtype.val)=[])) _) (OwnFrom.and (Own.from (boxed_own (w.heap.size+1) 22 (fun _=>.slice (some ⟨b,off,none⟩) len cap)) _) (Own.from (boxed_own (w.heap.size+2) 3 (fun _=>.int .i64 3)) _))) (ownFrom_below (Nat.le_refl _) (by omega)))
  (fun _ _ _ _ _ hs _ _=>hs)
  ⟨⟨⟨_,hbO,World.ownsRow_nil _ _ _ _,by simp[actsTo]⟩,hb1,hb2⟩,hB0⟩
  (fun x=>{ tmps:=#[.slice (some ⟨b,off,none⟩) len cap,undef,.slice none 0 0,.pointer (some ⟨w.heap.size,0,none⟩),pieceV b off len x.1,.slice (some ⟨b,off,none⟩) len cap,.func (.func 126) #[] #[.pointer (some ⟨w.heap.size+1,0,none⟩),.pointer (some ⟨w.heap.size+2,0,none⟩)],pieceV b off len x.1,undef,undef,undef,undef,undef,undef,undef,undef,undef,undef,undef,undef,undef,undef,undef,undef,undef,undef,undef,undef,undef],defers:=[] }) ?assign ?body ?done ?stop
 case assign=>
  intro l x W K hK
  obtain⟨V,hV⟩:∃ V,pieceV b off len x.1=V:=⟨_,rfl⟩
  rw[hV] at hK ⊢
  gi_wp2
  exact hK
 case body=>
  rintro l pre ⟨x,hx⟩ W ⟨⟨⟨v,hv,hrow,hnil⟩,hx1,hx2⟩,hB⟩ hlt
  have hcv:=hv.cell
  have hfv:=hv.frozen
  dsimp only
  by_cases h3:3*x+3≤len
  ·have hpv:pieceV b off len x=.slice (some ⟨b,off+3*x,none⟩) 3 3:=by unfold pieceV;rw[show min 3 (len-3*x)=3 by omega]
   rw[hpv]
   gi_wp2
   refine region_round (by kernel_rfl) ?hd ?hq ?_
   case hd=>exact noDefer_spec (by kernel_rfl)
   case hq=>exact fun ⟨_,_,h⟩=>h
   have hcx:∀ k,k<3→W.cell? ⟨b,off+3*x+k,none⟩=some (.int .u8 ((at' bs (3*x+k):Nat):Int))∧at' bs (3*x+k)≤255:=fun k hk=>by
    have h:=hc (3*x+k) (by omega)
    rw[show off+(3*x+k)=off+3*x+k by omega] at h
    exact⟨(hB.cell (p:=⟨b,off+3*x+k,none⟩) hb).trans h.1,h.2⟩
   obtain⟨⟨c0,d0⟩,⟨c1,d1⟩,⟨c2,d2⟩⟩:=And.intro (hcx 0 (by omega)) (And.intro (hcx 1 (by omega)) (hcx 2 (by omega)))
   obtain⟨k0,hk0⟩:∃ k,at' bs (3*x+0)=k:=⟨_,rfl⟩
   obtain⟨k1,hk1⟩:∃ k,at' bs (3*x+1)=k:=⟨_,rfl⟩
   obtain⟨k2,hk2⟩:∃ k,at' bs (3*x+2)=k:=⟨_,rfl⟩
   rw[hk0] at c0 d0
   rw[hk1] at c1 d1
   rw[hk2] at c2 d2
   obtain⟨o3,ho3⟩:∃ o,off+3*x=o:=⟨_,rfl⟩
   rw[ho3] at c0 c1 c2 ⊢
   rw[Nat.add_zero] at c0
   obtain⟨q0,hq0⟩:∃ q,k0 % 11=q:=⟨_,rfl⟩
   have w0:IntKind.i64.wrap (k0:Int)=(k0:Int):=IntWalk.i64_in _ (by omega)
   have w1':IntKind.i64.wrap (k1:Int)=(k1:Int):=IntWalk.i64_in _ (by omega)
   have w2':IntKind.i64.wrap (k2:Int)=(k2:Int):=IntWalk.i64_in _ (by omega)
   have w3':(k0:Int).tmod 11=(q0:Int):=by rw[←hq0];rfl
   obtain⟨tmp,htmp⟩:∃ t,Obj.cells #[.int .i64 (q0:Int),.int .i64 (k1:Int),.int .i64 (k2:Int)] 50=t:=⟨_,rfl⟩
   have hmore:actsTo bs ((pre ++ ([⟨x,hx⟩]:List { j:Nat // 3*j<len })).map Subtype.val)=actsTo bs (pre.map Subtype.val) ++ [(q0,k1,k2)]:=by
    unfold actsTo
    rw[List.map_append,List.filter_append,List.map_append]
    have hk0':at' bs (3*x)=k0:=hk0
    simp[hbs,h3,actV,hk0',hq0,hk1,hk2]
   have hcs:actCs (actsTo bs (pre.map Subtype.val) ++ [(q0,k1,k2)])=actCs (actsTo bs (pre.map Subtype.val)) ++ [.int .i64 (q0:Int),.int .i64 (k1:Int),.int .i64 (k2:Int)]:=by
    unfold actCs
    rw[List.flatMap_append]
    simp
   have hN:(actsTo bs (pre.map Subtype.val)).length+1≤8388608:=by
    unfold actsTo
    rw[List.length_map]
    have:=List.length_filter_le (fun j=>decide (3*j+3≤bs.length)) (pre.map Subtype.val)
    rw[List.length_map] at this
    omega
   have hown1:OwnV noReg w.heap.size 50 3 (({ W with drawn:=W.drawn+1 }:World).alloc tmp) v (actsTo bs (pre.map Subtype.val)).length (actCs (actsTo bs (pre.map Subtype.val))):=⟨World.ownsRow.alloc (w:={ W with drawn:=W.drawn+1 }) hrow tmp,fun _ _=>rfl⟩
   have hS2:(fun w':World=>w'.cell? ⟨b,o3,none⟩=some (.int .u8 (k0:Int))∧w'.cell? ⟨b,o3+1,none⟩=some (.int .u8 (k1:Int))∧w'.cell? ⟨b,o3+2,none⟩=some (.int .u8 (k2:Int))) (({ W with drawn:=W.drawn+1 }:World).alloc tmp):=by
    have hbb:∀ o,(({ W with drawn:=W.drawn+1 }:World).alloc tmp).cell? ⟨b,o,none⟩=W.cell? ⟨b,o,none⟩:=fun o=>World.cell?_of_block (a:=⟨b,o,none⟩) (Below.heap_alloc _ _ _ (Nat.lt_of_lt_of_le hb hB.size))
    exact⟨(hbb _).trans c0,(hbb _).trans c1,(hbb _).trans c2⟩
   have hnew:∀ j u,[Value.int .i64 (q0:Int),.int .i64 (k1:Int),.int .i64 (k2:Int)][j]?=some u→(({ W with drawn:=W.drawn+1 }:World).alloc tmp).cell? ((⟨W.heap.size,0,none⟩:Addr).add j)=some u:=fun j u hj=>by
    have h:=heap_alloc_new ({ W with drawn:=W.drawn+1 }:World) tmp
    rw[←htmp] at h ⊢
    match j,hj with
    | 0,hj=>cases hj;exact cells_at h 0
    | 1,hj=>cases hj;exact cells_at h 1
    | 2,hj=>cases hj;exact cells_at h 2
    | j+3,hj=>cases hj
   refine wpAny_of_held (S:=fun w'=>w'.cell? ⟨b,o3,none⟩=some (.int .u8 (k0:Int))∧w'.cell? ⟨b,o3+1,none⟩=some (.int .u8 (k1:Int))∧w'.cell? ⟨b,o3+2,none⟩=some (.int .u8 (k2:Int))) _ _ _ _ ?_
   have hS0:(fun w':World=>w'.cell? ⟨b,o3,none⟩=some (.int .u8 (k0:Int))∧w'.cell? ⟨b,o3+1,none⟩=some (.int .u8 (k1:Int))∧w'.cell? ⟨b,o3+2,none⟩=some (.int .u8 (k2:Int))) { W with drawn:=W.drawn+1 }:=⟨c0,c1,c2⟩
   refine tk 1 (v:=?v1) ?h1 ?_
   case h1=>(intro w' ⟨s0,s1,s2⟩;go_simp;try with_reducible rfl)
   try simp only[Act.put,rd]
   refine tk 2 (v:=?v2) ?h2 ?_
   case h2=>(intro w' ⟨s0,s1,s2⟩;go_simp;try with_reducible rfl)
   try simp only[Act.put,rd]
   refine tk 3 (v:=?v3) ?h3 ?_
   case h3=>(intro w' ⟨s0,s1,s2⟩;go_simp;try with_reducible rfl)
   try simp only[Act.put,rd]
   refine tk 4 (v:=?v4) ?h4 ?_
   case h4=>(intro w' ⟨s0,s1,s2⟩;go_simp;try with_reducible rfl)
   try simp only[Act.put,rd]
   refine tk 5 (v:=?v5) ?h5 ?_
   case h5=>(intro w' ⟨s0,s1,s2⟩;go_simp;try with_reducible rfl)
   try simp only[Act.put,rd]
   refine tk 6 (v:=?v6) ?h6 ?_
   case h6=>(intro w' ⟨s0,s1,s2⟩;go_simp;try with_reducible rfl)
   try simp only[Act.put,rd]
   refine tk 7 (v:=?v7) ?h7 ?_
   case h7=>(intro w' ⟨s0,s1,s2⟩;go_simp;try with_reducible rfl)
   try simp only[Act.put,rd]
   refine tk 8 (v:=?v8) ?h8 ?_
   case h8=>(intro w' ⟨s0,s1,s2⟩;go_simp;try with_reducible rfl)
   try simp only[Act.put,rd]
   refine tk 9 (v:=?v9) ?h9 ?_
   case h9=>(intro w' ⟨s0,s1,s2⟩;go_simp;try with_reducible rfl)
   try simp only[Act.put,rd]
   refine tk 10 (v:=?v10) ?h10 ?_
   case h10=>(intro w' ⟨s0,s1,s2⟩;go_simp;try with_reducible rfl)
   try simp only[Act.put,rd]
   refine tk 11 (v:=?v11) ?h11 ?_
   case h11=>(intro w' ⟨s0,s1,s2⟩;go_simp;try with_reducible rfl)
   try simp only[Act.put,rd]
   refine tk 12 (v:=?v12) ?h12 ?_
   case h12=>(intro w' ⟨s0,s1,s2⟩;go_simp;try with_reducible rfl)
   try simp only[Act.put,rd]
   refine tk 13 (v:=?v13) ?h13 ?_
   case h13=>(intro w' ⟨s0,s1,s2⟩;go_simp;try with_reducible rfl)
   try simp only[Act.put,rd]
   refine tk 14 (v:=?v14) ?h14 ?_
   case h14=>(intro w' ⟨s0,s1,s2⟩;go_simp;try with_reducible rfl)
   try simp only[Act.put,rd]
   try simp only[w0,w1',w2',w3']
   refine wpAnyH_ready (rs:=[0,15]) (by kernel_rfl) (by simp) ?_
   refine AllReadyH.cons rfl (fun K hK=>?_) (AllReadyH.cons rfl (fun K hK=>?_) AllReadyH.nil)
   ·go_simp
    refine hK.out _ _ hS0 (fun hHeld=>?_)
    refine wpAnyH_ready (rs:=[15]) (by kernel_rfl) (by simp) (AllReadyH.cons rfl (fun K2 hK2=>?_) AllReadyH.nil)
    go_simp
    try rw[htmp]
    refine hK2.out _ _ hS2 (fun hHeld2=>?_)
    refine wpAnyH_ready (rs:=[16]) (by kernel_rfl) (by simp) (AllReadyH.cons rfl (fun K3 hK3=>?_) AllReadyH.nil)
    refine step_app_row 61 50 3 24 (.agg #[.int .i64 0,.int .i64 0,.int .i64 0]) Tryz.underlying61 act_info rfl (by decide) (by decide) rfl _ _ rfl (R:=noReg) (B:=w.heap.size) hown1 rfl ⟨W.heap.size,0,none⟩ 1 1 [.int .i64 (q0:Int),.int .i64 (k1:Int),.int .i64 (k2:Int)] rfl rfl hnew (by intro u hu;simp at hu;rcases hu with rfl|rfl|rfl <;> rfl) hN (by have:=hB.size;simp;omega) (fun _ _=>rfl) ?_
    intro v' w1 hown' hgrow0 _
    have hgrow:(W.alloc tmp).grownBy w1 v.ownBlock:=⟨hgrow0.os,hgrow0.tape,hgrow0.output,hgrow0.size,hgrow0.block⟩
    obtain⟨g',cap',rfl⟩:=ownsRow_succ hown'.1
    obtain⟨hv1,hv2,hr2,hk2,hb2'⟩:=Boxed.appended (W:=W) hv (by decide) hrow hB.size (Nat.le_refl _) hown'.1 hgrow
    have hc1':=hv1.cell
    have hf1':=hv1.frozen
    have hbx1:=(hx1.alloc tmp).kept hgrow (hx1.not_row (by decide) hrow)
    have hbx2:=(hx2.alloc tmp).kept hgrow (hx2.not_row (by decide) hrow)
    have hS3:(fun w':World=>w'.cell? ⟨b,o3,none⟩=some (.int .u8 (k0:Int))∧w'.cell? ⟨b,o3+1,none⟩=some (.int .u8 (k1:Int))∧w'.cell? ⟨b,o3+2,none⟩=some (.int .u8 (k2:Int))) w1:=by
     have hbb:∀ o,w1.cell? ⟨b,o,none⟩=W.cell? ⟨b,o,none⟩:=fun o=>by
      have h0:w1.heap[b]?=W.heap[b]?:=by
       have hlt2:b<W.heap.size:=Nat.lt_of_lt_of_le hb hB.size
       rw[hgrow.block b (by rw[World.size_alloc];omega) (fun e=>?_)]
       ·exact Below.heap_alloc _ _ _ hlt2
       ·rcases hrow.2 with ⟨rfl,_⟩|⟨g,cp,cur,rfl,hbg,_⟩
        ·simp[Value.ownBlock] at e
        ·simp[Value.ownBlock] at e;omega
      exact World.cell?_of_block (a:=⟨b,o,none⟩) h0
     exact⟨(hbb _).trans c0,(hbb _).trans c1,(hbb _).trans c2⟩
    refine hK3.out _ _ hS3 (fun hHeld3=>?_)
    refine wpAnyH_ready (rs:=[17]) (by kernel_rfl) (by simp) (AllReadyH.cons rfl (fun K4 hK4=>?_) AllReadyH.nil)
    go_simp
    refine hK4.out _ _ ?_ (fun hHeld4=>?_)
    ·have hne:∀ (u:Value) o,(w1.setCell ⟨w.heap.size,0,none⟩ u).cell? ⟨b,o,none⟩=w1.cell? ⟨b,o,none⟩:=fun u o=>World.cell?_of_block (a:=⟨b,o,none⟩) (Below.heap_setCell _ _ _ _ (by simp;omega))
     exact⟨(hne _ _).trans hS3.1,(hne _ _).trans hS3.2.1,(hne _ _).trans hS3.2.2⟩
    refine wpAnyH_done (by kernel_rfl) ?_ _
    have hkeep:∀ (u:Value) k,k=w.heap.size+1∨k=w.heap.size+2→(w1.setCell ⟨w.heap.size,0,none⟩ u).heap[k]?=W.heap[k]?:=fun u k hk=>by
     rw[Below.heap_setCell _ _ _ _ (by simp;omega)]
     rcases hk with rfl|rfl
     ·exact hbx1.trans hx1.symm
     ·exact hbx2.trans hx2.symm
    exact⟨hk2.from _,⟨hb2',hkeep _⟩,⟨⟨_,hv2,by rw[hmore,hcs,List.length_append];simpa using hr2,by rw[hmore];simp⟩,hbx1.other (by omega) _,hbx2.other (by omega) _⟩,hB.trans hb2'⟩
   ·go_simp
    try rw[htmp]
    refine hK.out _ _ hS2 (fun hHeld=>?_)
    refine wpAnyH_ready (rs:=[0]) (by kernel_rfl) (by simp) (AllReadyH.cons rfl (fun K2 hK2=>?_) AllReadyH.nil)
    have hcv2:(W.alloc tmp).cell? ⟨w.heap.size,0,none⟩=some v:=(hv.alloc tmp).cell
    go_simp
    refine hK2.out _ _ hS2 (fun hHeld2=>?_)
    refine wpAnyH_ready (rs:=[16]) (by kernel_rfl) (by simp) (AllReadyH.cons rfl (fun K3 hK3=>?_) AllReadyH.nil)
    refine step_app_row 61 50 3 24 (.agg #[.int .i64 0,.int .i64 0,.int .i64 0]) Tryz.underlying61 act_info rfl (by decide) (by decide) rfl _ _ rfl (R:=noReg) (B:=w.heap.size) hown1 rfl ⟨W.heap.size,0,none⟩ 1 1 [.int .i64 (q0:Int),.int .i64 (k1:Int),.int .i64 (k2:Int)] rfl rfl hnew (by intro u hu;simp at hu;rcases hu with rfl|rfl|rfl <;> rfl) hN (by have:=hB.size;simp;omega) (fun _ _=>rfl) ?_
    intro v' w1 hown' hgrow0 _
    have hgrow:(W.alloc tmp).grownBy w1 v.ownBlock:=⟨hgrow0.os,hgrow0.tape,hgrow0.output,hgrow0.size,hgrow0.block⟩
    obtain⟨g',cap',rfl⟩:=ownsRow_succ hown'.1
    obtain⟨hv1,hv2,hr2,hk2,hb2'⟩:=Boxed.appended (W:=W) hv (by decide) hrow hB.size (Nat.le_refl _) hown'.1 hgrow
    have hc1':=hv1.cell
    have hf1':=hv1.frozen
    have hbx1:=(hx1.alloc tmp).kept hgrow (hx1.not_row (by decide) hrow)
    have hbx2:=(hx2.alloc tmp).kept hgrow (hx2.not_row (by decide) hrow)
    have hS3:(fun w':World=>w'.cell? ⟨b,o3,none⟩=some (.int .u8 (k0:Int))∧w'.cell? ⟨b,o3+1,none⟩=some (.int .u8 (k1:Int))∧w'.cell? ⟨b,o3+2,none⟩=some (.int .u8 (k2:Int))) w1:=by
     have hbb:∀ o,w1.cell? ⟨b,o,none⟩=W.cell? ⟨b,o,none⟩:=fun o=>by
      have h0:w1.heap[b]?=W.heap[b]?:=by
       have hlt2:b<W.heap.size:=Nat.lt_of_lt_of_le hb hB.size
       rw[hgrow.block b (by rw[World.size_alloc];omega) (fun e=>?_)]
       ·exact Below.heap_alloc _ _ _ hlt2
       ·rcases hrow.2 with ⟨rfl,_⟩|⟨g,cp,cur,rfl,hbg,_⟩
        ·simp[Value.ownBlock] at e
        ·simp[Value.ownBlock] at e;omega
      exact World.cell?_of_block (a:=⟨b,o,none⟩) h0
     exact⟨(hbb _).trans c0,(hbb _).trans c1,(hbb _).trans c2⟩
    refine hK3.out _ _ hS3 (fun hHeld3=>?_)
    refine wpAnyH_ready (rs:=[17]) (by kernel_rfl) (by simp) (AllReadyH.cons rfl (fun K4 hK4=>?_) AllReadyH.nil)
    go_simp
    refine hK4.out _ _ ?_ (fun hHeld4=>?_)
    ·have hne:∀ (u:Value) o,(w1.setCell ⟨w.heap.size,0,none⟩ u).cell? ⟨b,o,none⟩=w1.cell? ⟨b,o,none⟩:=fun u o=>World.cell?_of_block (a:=⟨b,o,none⟩) (Below.heap_setCell _ _ _ _ (by simp;omega))
     exact⟨(hne _ _).trans hS3.1,(hne _ _).trans hS3.2.1,(hne _ _).trans hS3.2.2⟩
    refine wpAnyH_done (by kernel_rfl) ?_ _
    have hkeep:∀ (u:Value) k,k=w.heap.size+1∨k=w.heap.size+2→(w1.setCell ⟨w.heap.size,0,none⟩ u).heap[k]?=W.heap[k]?:=fun u k hk=>by
     rw[Below.heap_setCell _ _ _ _ (by simp;omega)]
     rcases hk with rfl|rfl
     ·exact hbx1.trans hx1.symm
     ·exact hbx2.trans hx2.symm
    exact⟨hk2.from _,⟨hb2',hkeep _⟩,⟨⟨_,hv2,by rw[hmore,hcs,List.length_append];simpa using hr2,by rw[hmore];simp⟩,hbx1.other (by omega) _,hbx2.other (by omega) _⟩,hB.trans hb2'⟩
  ·obtain⟨M,hM⟩:∃ M,min 3 (len-3*x)=M:=⟨_,rfl⟩
   have hpv:pieceV b off len x=.slice (some ⟨b,off+3*x,none⟩) M M:=by unfold pieceV;rw[hM]
   have hm3:((M:Int) == 3)=false:=beq_eq_false_iff_ne.2 (by omega)
   have hsame:actsTo bs ((pre ++ ([⟨x,hx⟩]:List { j:Nat // 3*j<len })).map Subtype.val)=actsTo bs (pre.map Subtype.val):=by
    unfold actsTo
    rw[List.map_append,List.filter_append]
    simp[hbs,h3]
   rw[hpv]
   gi_wp2
   exact⟨KeepsFrom.refl _ _,⟨Below.refl _ _,fun _ _=>rfl⟩,⟨⟨v,hv,by rw[hsame];exact hrow,by rw[hsame];exact hnil⟩,hx1,hx2⟩,hB⟩
 case done=>
  rintro D ys W hD ⟨hy1,hy2⟩ ⟨⟨⟨v,hv,hrow,hnil⟩,_,_⟩,hB⟩ hK
  have hcv:=hv.cell
  rw[hy2] at hrow
  gi_wp2
  refine⟨by simp,.inl ⟨_,_,rfl,run_takeDeferred hK,?_⟩⟩
  exact⟨_,results_tmp rfl _ _ _,v,ys.length,rfl,ownsRow_putObj hrow _ hK rfl,hy1,hB.trans (belowK_b (w:=w) (Nat.le_refl _) W D _ _ (by omega) hK rfl rfl)⟩
 case stop=>
  rintro D c pre W _ _ h _
  exact h.elim
end
section
open Go.RowKit Go.Shelf
set_option linter.unusedVariables false
set_option linter.unusedSimpArgs false
attribute [local go_sem] Oper.semAt_some
set_option maxRecDepth 100000 in
set_option maxHeartbeats 1000000 in
theorem chunk0_in (n:Nat) (l Bs Bn:Nat) (a:Option Addr) (cap:Nat) (W:World) (hBs:W.cell? ⟨Bs,0,none⟩=some (.slice a 0 cap)) (J:List Empty→World→Prop) (h0:J [] W):
  CallsIn Fence.wide n Tryz.prog 126 #[.func (.yield l) #[] #[],.pointer (some ⟨Bs,0,none⟩),.pointer (some ⟨Bn,0,none⟩)] W fun e W'=>(∃ v,e=.returned v) ∧
   ((∃ ys:List Empty,True∧J ys W')∨(∃ pre:List Empty,True∧False)):=by
 refine callsIn_of_wp Tryz.func126 rfl trivial ?_ rfl
 simp only[Tryz.ntmps126,List.size_toArray,List.length_cons,List.length_nil,Nat.reduceAdd,Nat.reduceSub,Array.replicate_succ,Array.replicate_zero,List.push_toArray,List.append_toArray,List.nil_append,List.cons_append]
 gi_wp2
 gi_loopw [4] (fun v wr=>v=.int .i64 0∧J [] wr∧wr.cell? ⟨Bs,0,none⟩=some (.slice a 0 cap)) (fun _ _=>0)
 case atStart=>exact⟨rfl,h0,hBs⟩
 case round=>
  obtain⟨rfl,hJs,hc1⟩:=hrel
  gi_wp2
  go_end0
  exact⟨⟨_,rfl⟩,.inl ⟨[],trivial,hJs⟩⟩
theorem chunk_none (n:Nat) (a:Option Addr) (cap:Nat) (w:World) (Bs Bn:Nat) (Kp:World→World→Prop) (hKp:∀ A B o,Kp A B→o=Bs∨o=Bn→B.cell? ⟨o,0,none⟩=A.cell? ⟨o,0,none⟩)
  (hs:Bs<w.heap.size) (hn:Bn<w.heap.size) (hBs:w.cell? ⟨Bs,0,none⟩=some (.slice a 0 cap)) (hBn:w.cell? ⟨Bn,0,none⟩=some (.int .i64 3)):
  SeqStopsK Fence.wide n Tryz.prog 126 #[.pointer (some ⟨Bs,0,none⟩),.pointer (some ⟨Bn,0,none⟩)] (fun x:Empty=>#[Value.slice none 0 0]) Kp (fun ys=>True) (fun _=>True) 0 w:=fun l J Jx W hW hJ _ hY h0=>
 (chunk0_in n l Bs Bn a cap W ((hW.cell (p:=⟨Bs,0,none⟩) hs).trans hBs) J h0).mono fun e W' ⟨h1,h2⟩=>⟨h1,h2.elim (fun ⟨ys,a,c⟩=>Or.inl ⟨ys,a,c⟩) fun ⟨pre,_,h⟩=>h.elim⟩
set_option maxRecDepth 100000 in
set_option maxHeartbeats 600000 in
theorem read_zero (w:World) (a:Option Addr) (cap:Nat):
  Calls Tryz.prog 39 #[.slice a 0 cap] w fun e W'=>e=.returned (.slice none 0 0)∧Below w.heap.size w W':=by
 rw[←callsIn_wide (n:=5)]
 refine callsIn_of_wp_marks Tryz.func39 rfl trivial ?_ rfl
 simp only[Tryz.ntmps39,List.size_toArray,List.length_cons,List.length_nil,Nat.reduceAdd,Nat.reduceSub,Array.replicate_succ,Array.replicate_zero,List.push_toArray,List.append_toArray,List.nil_append,List.cons_append]
 gi_wp2
 refine⟨trivial,?_⟩
 refine (callsIn_wide.2 (chunk_in _ _ _ _)).mono ?_
 rintro e w' ⟨rfl,rfl⟩
 simp only[World.size_alloc]
 gi_wp2
 have bO:=Boxed.new w 61 (.slice none 0 0)
 have hB0:Below w.heap.size w (((w.alloc (.cells #[.slice none 0 0] 61)).alloc (.cells #[.slice a 0 cap] 22)).alloc (.cells #[.int .i64 3] 3)):=(((Below.refl _ w).alloc (Nat.le_refl _) _).alloc (by simp) _).alloc (by simp;omega) _
 obtain⟨W0,hW0⟩:∃ x,((w.alloc (.cells #[.slice none 0 0] 61)).alloc (.cells #[.slice a 0 cap] 22)).alloc (.cells #[.int .i64 3] 3)=x:=⟨_,rfl⟩
 have hsz:W0.heap.size=w.heap.size+3:=by rw[←hW0];simp
 have hb1:W0.heap[w.heap.size+1]?=some (.cells #[.slice a 0 cap] 22 (0,0)):=by
  rw[←hW0]
  have h:=heap_alloc_new (w.alloc (.cells #[.slice none 0 0] 61)) (.cells #[.slice a 0 cap] 22)
  rw[World.size_alloc] at h
  exact (Below.heap_alloc _ _ _ (by simp)).trans h
 have hb2:W0.heap[w.heap.size+2]?=some (.cells #[.int .i64 3] 3 (0,0)):=by
  rw[←hW0]
  have h:=heap_alloc_new ((w.alloc (.cells #[.slice none 0 0] 61)).alloc (.cells #[.slice a 0 cap] 22)) (.cells #[.int .i64 3] 3)
  rw[World.size_alloc,World.size_alloc] at h
  exact h
 have hbO:Boxed W0 w.heap.size 61 (.slice none 0 0):=by rw[←hW0];exact (bO.alloc _).alloc _
 rw[hW0] at hB0 ⊢
 clear hW0 bO
 have hKb:∀ (W:World) (l:Nat) (o o':Obj),W0.heap.size≤l→W.heap[l]?=some o→o.isCells=false→o.isWalk=false→(Below w.heap.size W (W.putObj l o')∧∀ k,k=w.heap.size+1∨k=w.heap.size+2→(W.putObj l o').heap[k]?=W.heap[k]?):=fun W l o o' hl h h1 h2=>
  ⟨belowK_b (Nat.le_refl _) W l o o' (by omega) h h1 h2,fun k hk=>by
   have hlt:=(Array.getElem?_eq_some_iff.1 h).1
   exact (grownBy_putObj' W l o').block k (by omega) (by simp;omega)⟩
 refine wpIn_rangeFunc_ownG rfl (by decide) (gf:=126) (lb:=#[.pointer (some ⟨w.heap.size+1,0,none⟩),.pointer (some ⟨w.heap.size+2,0,none⟩)]) rfl trivial (enters_of Tryz.func126 (by kernel_rfl) rfl)
  (Kp:=fun A B=>Below w.heap.size A B∧∀ k,k=w.heap.size+1∨k=w.heap.size+2→B.heap[k]?=A.heap[k]?)
  (chunk_none _ a cap W0 (w.heap.size+1) (w.heap.size+2) _ (fun A B o h ho=>World.cell?_of_block (a:=⟨o,0,none⟩) (h.2 o ho)) (by omega) (by omega) (cells_at hb1 0) (cells_at hb2 0))
  (fun h k=>⟨h.1.trans k.1,fun o ho=>(k.2 o ho).trans (h.2 o ho)⟩) hKb (Below.refl _ _) (fun _=>rfl)
  (fun pre W=>Boxed W w.heap.size 61 (.slice none 0 0)∧Below w.heap.size w W)
  (fun _ _ _=>False)
  (OwnFrom.and (Own.from (boxed_own w.heap.size 61 (fun _=>.slice none 0 0)) _) (ownFrom_below (Nat.le_refl _) (by omega)))
  (fun _ _ _ _ _ hs _ _=>hs)
  ⟨hbO,hB0⟩
  (fun x:Empty=>{ tmps:=#[.slice a 0 cap,undef,.slice none 0 0,.pointer (some ⟨w.heap.size,0,none⟩),.slice none 0 0,.slice a 0 cap,.func (.func 126) #[] #[.pointer (some ⟨w.heap.size+1,0,none⟩),.pointer (some ⟨w.heap.size+2,0,none⟩)],.slice none 0 0,undef,undef,undef,undef,undef,undef,undef,undef,undef,undef,undef,undef,undef,undef,undef,undef,undef,undef,undef,undef,undef],defers:=[] }) ?assign ?body ?done ?stop
 case assign=>
  intro l x
  exact x.elim
 case body=>
  intro l pre x
  exact x.elim
 case done=>
  rintro D ys W hD _ ⟨hv,hB⟩ hK
  have hcv:=hv.cell
  gi_wp2
  refine⟨by simp,.inl ⟨_,_,rfl,run_takeDeferred hK,?_⟩⟩
  exact⟨_,results_tmp rfl _ _ _,rfl,hB.trans (belowK_b (w:=w) (Nat.le_refl _) W D _ _ (by omega) hK rfl rfl)⟩
 case stop=>
  rintro D c pre W _ _ h _
  exact h.elim
def actsL (bs:List Nat):List (Nat × Nat × Nat):=(List.range (bs.length / 3)).map (actV bs)
theorem actsTo_all {bs:List Nat} {js:Nat} (h:bs.length≤3*js):actsTo bs (List.range js)=actsL bs:=by
 unfold actsTo actsL
 obtain⟨r,hr⟩:∃ r,js=bs.length / 3+r:=⟨js-bs.length / 3,by omega⟩
 rw[hr,List.range_add,List.filter_append,List.map_append]
 have h1:(List.range (bs.length / 3)).filter (fun j=>decide (3*j+3≤bs.length))=List.range (bs.length / 3):=List.filter_eq_self.2 fun j hj=>by
  rw[List.mem_range] at hj
  exact decide_eq_true (by omega)
 have h2:((List.range r).map (fun x=>bs.length / 3+x)).filter (fun j=>decide (3*j+3≤bs.length))=[]:=List.filter_eq_nil_iff.2 fun j hj=>by
  obtain⟨k,_,rfl⟩:=List.mem_map.1 hj
  simp
  omega
 rw[h1,h2]
 simp
def RetActs (R:Reg) (w:World) (l:List (Nat × Nat × Nat)) (e:Ending) (w':World):Prop:=
 ∃ v,e=.returned v∧Ev R w R w'∧OwnV R w.heap.size 50 3 w' v l.length (actCs l)
theorem read_any (R:Reg) (w:World) (hI:Inv R w) (a:Option Addr) (cap:Nat) (bs:List Nat) (hv:FreeB R w (.slice a bs.length cap) bs) (hcap:bs.length≤cap) (hlen:bs.length≤1000):
  Calls Tryz.prog 39 #[.slice a bs.length cap] w (RetActs R w (actsL bs)):=by
 obtain⟨a',cap',e,_,hc⟩:=hv
 cases e
 by_cases h0:bs.length=0
 ·obtain rfl:=List.eq_nil_of_length_eq_zero h0
  refine (read_zero w a cap).mono ?_
  rintro e w' ⟨rfl,hb⟩
  exact⟨_,rfl,Ev.of_below hI hb,OwnV.nil _ _ _ _ _⟩
 ·obtain⟨b,off,rfl,hR,hc0,_⟩:=hc 0 (by omega)
  have hblt:=lt_of_cell hc0
  refine (read_in w b off bs.length cap bs rfl hcap hlen hblt fun i hi=>?_).mono ?_
  ·obtain⟨b',o',e',_,h1,h2⟩:=hc i hi
   cases e'
   exact⟨h1,h2⟩
  ·rintro e w' ⟨v,js,rfl,ho,hjs,hb⟩
   rw[actsTo_all hjs] at ho
   refine⟨v,rfl,Ev.of_below hI hb,ho,fun k hk=>?_⟩
   rcases ho.2 with ⟨rfl,_⟩|⟨g,cp,cur,rfl,hg,_⟩
   ·simp[Value.ownBlock] at hk
   ·simp only[Value.ownBlock,Option.some.injEq] at hk
    exact hI.none_of_ge (by rw[←hk];exact hg)
end
end Go.Proofs.YtklkgicjfnbndaaGreat
