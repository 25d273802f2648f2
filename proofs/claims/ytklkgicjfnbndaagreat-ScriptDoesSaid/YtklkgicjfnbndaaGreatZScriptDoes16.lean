/- slices.Chunk of a row of bytes, by three: what it hands to the loop, round by round. Conditions: none. -/
import Derived.RangeFuncBox
import Derived.RangeFuncLeaves
import Derived.Shelf.Abstract
import Derived.WalkKit
import Derived.OwnWalkIn
import Derived.TacticsInMore
import Derived.LoopNIn
import Derived.LoopIn
import Derived.Maps.AppendAt
import Derived.BigRegionIn
import Derived.Test.YtklkgicjfnbndaaGreatZScriptDoes02
import Derived.Test.YtklkgicjfnbndaaGreatZScriptDoes15
namespace Go.Proofs.YtklkgicjfnbndaaGreat
open Go.RowKit Go.Shelf
set_option linter.unusedVariables false
attribute [local go_sem] Oper.semAt_some
def pieceV (b off len j:Nat):Value:=.slice (some ⟨b,off+3*j,none⟩) (min 3 (len-3*j)) (min 3 (len-3*j))
set_option maxRecDepth 100000 in
set_option maxHeartbeats 1000000 in
theorem chunk1_in (n:Nat) (l Bs Bn b off len cap:Nat) (hcap:len≤cap) (hlen:len≤1000000) (J Jx:List { j:Nat // 3*j<len }→World→Prop)
  (Kp:World→World→Prop) (hKp:∀ A B o,Kp A B→o=Bs∨o=Bn→B.cell? ⟨o,0,none⟩=A.cell? ⟨o,0,none⟩) (n₁:Nat) (hJ:AbidesFrom n₁ J)
  (hY:∀ pre (x:{ j:Nat // 3*j<len }) W,J pre W→pre.length<len→YieldAt Fence.wide (n-1) Tryz.prog l #[pieceV b off len x.1] W fun e W'=>
   (e=.returned (.bool true)∧J (pre ++ [x]) W'∧Kp W W')∨(e=.returned (.bool false)∧Jx (pre ++ [x]) W'))
  (W:World) (hBs:W.cell? ⟨Bs,0,none⟩=some (.slice (some ⟨b,off,none⟩) len cap)) (hBn:W.cell? ⟨Bn,0,none⟩=some (.int .i64 3)) (h0:J [] W):
  CallsIn Fence.wide n Tryz.prog 126 #[.func (.yield l) #[] #[],.pointer (some ⟨Bs,0,none⟩),.pointer (some ⟨Bn,0,none⟩)] W fun e W'=>(∃ v,e=.returned v) ∧
   ((∃ ys:List { j:Nat // 3*j<len },len≤3*ys.length∧ys.map Subtype.val=List.range ys.length∧J ys W')∨(∃ pre,Jx pre W')):=by
 refine callsIn_of_wp Tryz.func126 rfl trivial ?_ rfl
 simp only[Tryz.ntmps126,List.size_toArray,List.length_cons,List.length_nil,Nat.reduceAdd,Nat.reduceSub,Array.replicate_succ,Array.replicate_zero,List.push_toArray,List.append_toArray,List.nil_append,List.cons_append]
 gi_wp2
 gi_loopw [4] (fun v wr=>∃ (pre:List { j:Nat // 3*j<len }),v=.int .i64 ((3*pre.length:Nat):Int)∧pre.map Subtype.val=List.range pre.length∧3*pre.length<len+3∧J pre wr∧wr.cell? ⟨Bs,0,none⟩=some (.slice (some ⟨b,off,none⟩) len cap)∧wr.cell? ⟨Bn,0,none⟩=some (.int .i64 3))
  (fun v _=>len+3-(intOf v).toNat)
 case atStart=>exact⟨[],rfl,rfl,by simp,h0,hBs,hBn⟩
 case round=>
  obtain⟨pre,rfl,hpre,hlt,hJs,hc1,hc2⟩:=hrel
  obtain⟨k,hk⟩:∃ k,pre.length=k:=⟨_,rfl⟩
  rw[hk] at hpre hlt ⊢
  obtain⟨q,hq⟩:∃ q,3*k=q:=⟨_,rfl⟩
  rw[hq] at hlt ⊢
  by_cases hi:q<len
  ·have hir:(q:Int)<(len:Int):=by omega
   have hmx:Tryz.prog.follows .mixedOrders=true:=by kernel_rfl
   obtain⟨r,hr⟩:∃ r,len-q=r:=⟨_,rfl⟩
   have hql:(q:Int)≤(len:Int):=by omega
   have hqn:(0:Int)≤(q:Int):=by omega
   obtain⟨M,hM⟩:∃ M,min 3 (len-3*k)=M:=⟨_,rfl⟩
   have hJd:J pre wr.drew:=hJ pre wr wr.drew none hJs ⟨rfl,rfl,rfl,Nat.le_refl _,fun _ _ _=>rfl⟩ (fun r e=>by cases e)
   obtain⟨fn,tmps,assign,body,hy,hR⟩:=hY pre ⟨k,by omega⟩ wr.drew hJd (by omega)
   have hpv:pieceV b off len k=.slice (some ⟨b,off+q,none⟩) M M:=by unfold pieceV;rw[hM,hq]
   dsimp only at hy
   rw[hpv] at hy
   have HR:=Lib.hid hR
   have HC:=Lib.hid (show _∧_ from⟨hc1,hc2⟩)
   have HP:=Lib.hid hpre
   clear hR hJs hJd hpre hpv hY
   gi_wp2
   gi_region
   all_goals gi_wp2
   all_goals (
    first
     |(have e3:((q:Int)+3).toNat-q=M:=by omega
       rw[e3])
     |(have e3:((q:Int)+(r:Int)).toNat-q=M:=by omega
       rw[e3])
    rw[hy]
    refine⟨fun hs=>(by cases hs),?_⟩
    refine HR.out.mono ?_
    rintro e W3 (⟨rfl,hJ3,hk3⟩|⟨rfl,hJx3⟩)
    ·have hc2':=(hKp _ _ Bn hk3 (Or.inr rfl)).trans hc2
     have hc1':=(hKp _ _ Bs hk3 (Or.inl rfl)).trans hc1
     gi_wp2
     go_roundw
     case rel=>
      refine⟨pre ++ [⟨k,by omega⟩],?_,?_,?_,hJ3,hc1',hc2'⟩
      ·rw[List.length_append,hk];simp;omega
      ·rw[List.map_append,HP.out,List.length_append,hk];simp[List.range_succ]
      ·rw[List.length_append,hk];simp;omega
     case measure=>simp[intOf];omega
    ·gi_wp2
     refine bodyPost_ret (results_none rfl _ _ _) rfl ?_
     exact⟨⟨_,rfl⟩,.inr ⟨_,hJx3⟩⟩)
  ·have hir:¬ (q:Int)<(len:Int):=by omega
   have HP:=Lib.hid hpre
   clear hpre
   gi_wp2
   go_end0
   exact⟨⟨_,rfl⟩,.inl ⟨pre,by omega,by rw[hk];exact HP.out,hJs⟩⟩
set_option maxRecDepth 100000 in
set_option maxHeartbeats 1000000 in
theorem chunk_in (w:World) (a:Option Addr) (n c:Nat):Calls Tryz.prog 83 #[.slice a n c,.int .i64 3] w fun e w'=>e=.returned (.func (.func 126) #[] #[.pointer (some ⟨w.heap.size,0,none⟩),.pointer (some ⟨w.heap.size+1,0,none⟩)])∧w'=(w.alloc (.cells #[.slice a n c] 22)).alloc (.cells #[.int .i64 3] 3):=by
 have hmf:=@makeFunc_run
 go_enter Tryz.func83,Tryz.ntmps83
 go_wp2_with fail
 go_ret
 exact⟨rfl,rfl⟩
theorem chunk_stops (n:Nat) (b off len cap:Nat) (hcap:len≤cap) (hlen:len≤1000000) (w:World) (Bs Bn:Nat) (Kp:World→World→Prop) (hKp:∀ A B o,Kp A B→o=Bs∨o=Bn→B.cell? ⟨o,0,none⟩=A.cell? ⟨o,0,none⟩)
  (hs:Bs<w.heap.size) (hn:Bn<w.heap.size) (hBs:w.cell? ⟨Bs,0,none⟩=some (.slice (some ⟨b,off,none⟩) len cap)) (hBn:w.cell? ⟨Bn,0,none⟩=some (.int .i64 3)):
  SeqStopsK Fence.wide n Tryz.prog 126 #[.pointer (some ⟨Bs,0,none⟩),.pointer (some ⟨Bn,0,none⟩)] (fun x:{ j:Nat // 3*j<len }=>#[pieceV b off len x.1]) Kp (fun ys=>len≤3*ys.length∧ys.map Subtype.val=List.range ys.length) (fun _=>True) len w:=fun l J Jx W hW hJ _ hY h0=>
 (chunk1_in n l Bs Bn b off len cap hcap hlen J Jx Kp hKp _ hJ hY W ((hW.cell (p:=⟨Bs,0,none⟩) hs).trans hBs) ((hW.cell (p:=⟨Bn,0,none⟩) hn).trans hBn) h0).mono fun e W' ⟨h1,h2⟩=>⟨h1,h2.elim (fun ⟨ys,a,b,c⟩=>Or.inl ⟨ys,⟨a,b⟩,c⟩) fun ⟨pre,h⟩=>Or.inr ⟨pre,trivial,h⟩⟩
end Go.Proofs.YtklkgicjfnbndaaGreat
