/- parquetryref14.pick. Conditions: the bytes lie in memory; the place is small. -/
import Derived.Test.YtgphnkkdmlohlaaZShellRights11
import Derived.Deep.DeepCutAuto
namespace Go.Proofs.Ytgphnkkdmlohlaa
open Go.RowKit
set_option linter.unusedVariables false
def pickN (bs:List Nat) (t:Nat):Nat:=if bs.length=0 then 0 else at' bs (t % bs.length)+t / bs.length
set_option maxRecDepth 100000 in
set_option maxHeartbeats 1000000 in
theorem pick_any (R:Reg) (w:World) (hI:Inv R w) (v:Value) (bs:List Nat) (hv:FreeB R w v bs) (t:Nat) (ht:t≤100000):
  Calls Try.prog 14 #[v,.int .i64 (t:Int)] w (RetE R w (.int .i64 ((pickN bs t:Nat):Int))):=by
 have HI:=Lib.hid hI
 obtain⟨a0,c0,rfl,hl,hcell⟩:=hv
 have hres:pickN bs t=if bs.length=0 then 0 else at' bs (t % bs.length)+t / bs.length:=rfl
 obtain⟨B,hB⟩:∃ B,pickN bs t=B:=⟨_,rfl⟩
 rw[hB] at hres ⊢
 by_cases hb0:bs.length=0
 ·rw[if_pos hb0] at hres
  subst hres
  have hbn:((bs.length:Int) == 0)=true:=by rw[hb0];rfl
  have HBn:=Lib.hid hb0
  clear hcell hI hb0
  go_enter Try.func14,Try.ntmps14
  go_wp2_with fail
  go_ret
  exact⟨rfl,Ev.refl HI.out⟩
 ·rw[if_neg hb0] at hres
  have hbn:((bs.length:Int) == 0)=false:=beq_eq_false_iff_ne.2 (by omega)
  obtain⟨bS,oS,rfl,_,hc,hc255⟩:=hcell (t % bs.length) (Nat.mod_lt _ (by omega))
  obtain⟨im,him⟩:∃ x,t % bs.length=x:=⟨_,rfl⟩
  have himl:im<bs.length:=by rw[←him];exact Nat.mod_lt _ (by omega)
  obtain⟨iq,hiq⟩:∃ x,t / bs.length=x:=⟨_,rfl⟩
  obtain⟨y,hy⟩:∃ x,at' bs im=x:=⟨_,rfl⟩
  rw[him,hiq] at hres
  rw[him] at hc hc255
  rw[hy] at hres hc hc255
  have hiq2:iq≤100000:=by rw[←hiq];exact Nat.le_trans (Nat.div_le_self _ _) (by omega)
  have e1:(t:Int) % (bs.length:Int)=(im:Int):=by rw[←him];simp
  have e2:(t:Int) / (bs.length:Int)=(iq:Int):=by rw[←hiq];simp
  have e4:IntKind.i64.wrap ((y:Int)+(iq:Int))=(B:Int):=by rw[show (y:Int)+(iq:Int)=(B:Int) by omega];exact IntWalk.i64_in _ (by omega)
  have hz1:(bs.length:Int)≠0:=by omega
  have himr:(im:Int)<(bs.length:Int):=by omega
  clear him hiq hy hres hb0 hcell hI
  go_enter Try.func14,Try.ntmps14
  go_upto_region 3 with fail
  go_region
  go_wp2_with fail
  go_ret
  exact⟨rfl,(Ev.refl HI.out).drew⟩
end Go.Proofs.Ytgphnkkdmlohlaa
