/- sync.Once in one goroutine, the lock free: Do calls a bound method once; then never again. -/
import Derived.Test.YtgphnkkdmlohlaaGreatDoorZWoodNo01
import Derived.Test.YtgphnkkdmlohlaaGreatDoorProg
import Derived.Defers
import Derived.Laws.Pointers
import Derived.Laws.LoneSync
import Derived.RegionTactic
import Derived.RegionCalls
import Derived.ChangeAlike
namespace Go.Proofs.YtgphnkkdmlohlaaGreatDoor
open Go.RowKit
set_option linter.unusedVariables false
theorem mu_disable (w:World):(callFunc 137 #[]).run Tryz.prog w=.ok (.value (.tuple #[])) w:=run_call_mark0 Tryz.func137 (by kernel_rfl) (by kernel_rfl) (by kernel_rfl) .disable (by kernel_rfl) w
theorem mu_enable (w:World):(callFunc 139 #[]).run Tryz.prog w=.ok (.value (.tuple #[])) w:=run_call_mark0 Tryz.func139 (by kernel_rfl) (by kernel_rfl) (by kernel_rfl) .enable (by kernel_rfl) w
theorem mu_acquire (a:Addr) (w:World):(callFunc 140 #[.pointer (some a)]).run Tryz.prog w=.ok (.value (.tuple #[])) w:=run_call_marked Tryz.func140 (by kernel_rfl) (by kernel_rfl) (by kernel_rfl) .acquire (by kernel_rfl) a w
theorem mu_releaseMerge (a:Addr) (w:World):(callFunc 142 #[.pointer (some a)]).run Tryz.prog w=.ok (.value (.tuple #[])) w:=run_call_marked Tryz.func142 (by kernel_rfl) (by kernel_rfl) (by kernel_rfl) .releaseMerge (by kernel_rfl) a w
theorem store_deferred (a:Addr) (x:Value) (u:FrameMode) (w:World) (hc:w.cell? a=some x) (hz:w.frozen? a=false):
  CallsD Tryz.prog 127 #[.pointer (some a),.bool true] u w fun e u' w'=>u'=u∧(e=.returned (.tuple #[])∧w'=w.drew.setCell a (.int .u32 1)):=by
 have hc':w.drew.cell? a=some x:=by go_simp
 have hz':w.drew.frozen? a=false:=by go_simp
 have hst:=run_call_store (P:=Tryz.prog) Tryz.func134 (by kernel_rfl) (by kernel_rfl) (by kernel_rfl) (by kernel_rfl) (k:=.u32) (y:=1) hc' hz'
 go_enter_d Tryz.func127,Tryz.ntmps127
 go_wp2
 go_region_calls
 all_goals (go_end0;exact⟨rfl,rfl⟩)
set_option maxRecDepth 100000 in
set_option maxHeartbeats 1600000 in
theorem unlock_deferred (a:Addr) (u:FrameMode) (w:World) (hc:w.cell? a=some (.int .i32 1)) (hz:w.frozen? a=false):
  CallsD Tryz.prog 126 #[.pointer (some a)] u w fun e u' w'=>u'=u∧(e=.returned (.tuple #[])∧w'=w.setCell a (.int .i32 0)):=by
 have hd:=mu_disable
 have he:=mu_enable
 have hr:=mu_releaseMerge
 have hadd:=run_call_add (P:=Tryz.prog) Tryz.func143 (by kernel_rfl) (by kernel_rfl) (by kernel_rfl) .i32 (by kernel_rfl) (y:=-1) (s:=0) hc hz (by simp[go_sem];rfl)
 have hcv:=run_convert_to_unsafe (P:=Tryz.prog) (src:=154) (dst:=158) Tryz.underlying154 Tryz.underlying158 (by kernel_rfl) hc
 go_enter_d Tryz.func126,Tryz.ntmps126
 go_wp2
 go_end0
 go_wp2
 go_end0
 exact⟨rfl,rfl⟩
set_option maxRecDepth 100000 in
set_option maxHeartbeats 1600000 in
theorem lock_free (a:Addr) (w:World) (hc:w.cell? a=some (.int .i32 0)) (hz:w.frozen? a=false):
  Calls Tryz.prog 125 #[.pointer (some a)] w fun e w'=>e=.returned (.tuple #[])∧w'=w.setCell a (.int .i32 1):=by
 have hd:=mu_disable
 have he:=mu_enable
 have ha:=mu_acquire
 have hcas:=run_call_cas_hit (P:=Tryz.prog) Tryz.func138 (by kernel_rfl) (by kernel_rfl) (by kernel_rfl) .i32 (by kernel_rfl) (y:=1) hc hz
 have hc':(w.setCell a (.int .i32 1)).cell? a=some (.int .i32 1):=World.cell?_setCell_same w a _ hc
 have hcv:=run_convert_to_unsafe (P:=Tryz.prog) (src:=154) (dst:=158) Tryz.underlying154 Tryz.underlying158 (by kernel_rfl) hc'
 go_enter Tryz.func125,Tryz.ntmps125
 go_wp2
 first|go_end0|(simp only[Exit.inBlock,Exit.then];refine bodyPost_ret (results_none rfl _ _ _) rfl ?_)|refine bodyPost_ret (results_none rfl _ _ _) rfl ?_
 go_wp2
 go_end0
 exact⟨rfl,rfl⟩
theorem not_run (x:Bool) (w:World):(Op.unary .not (.bool x)).run Tryz.prog w=.ok (.bool (!x)) w:=rfl
theorem do_done (a:Addr) (fv:Value) (w:World) (h0:w.cell? a=some (.int .u32 1)):
  Calls Tryz.prog 103 #[.pointer (some a),fv] w fun e w'=>e=.returned (.tuple #[])∧w=w':=by
 have hl:=run_call_load (P:=Tryz.prog) Tryz.func124 (by kernel_rfl) (by kernel_rfl) (by kernel_rfl) .u32 (by kernel_rfl) h0
 have hnot:=not_run
 go_enter Tryz.func103,Tryz.ntmps103
 go_wp2
 go_end0
 exact⟨rfl,rfl⟩
def OnceKept (b off:Nat) (Q:World→Prop) (e:Ending) (w':World):Prop:=
 e=.returned (.tuple #[])∧Q w'∧w'.cell? ⟨b,off,none⟩=some (.int .u32 0)∧w'.cell? ⟨b,off+1,none⟩=some (.int .i32 1)∧w'.frozen? ⟨b,off,none⟩=false∧w'.frozen? ⟨b,off+1,none⟩=false
def OnceDone (b off:Nat) (Q:World→Prop) (e:Ending) (w':World):Prop:=
 e=.returned (.tuple #[])∧∃ w2,Q w2∧w'=(w2.drew.setCell ⟨b,off,none⟩ (.int .u32 1)).setCell ⟨b,off+1,none⟩ (.int .i32 0)
set_option maxRecDepth 100000 in
set_option maxHeartbeats 1600000 in
theorem slow_turn (b off:Nat) (pv:Value) (w:World) (h0:w.cell? ⟨b,off,none⟩=some (.int .u32 0)) (h1:w.cell? ⟨b,off+1,none⟩=some (.int .i32 0))
  (f0:w.frozen? ⟨b,off,none⟩=false) (f1:w.frozen? ⟨b,off+1,none⟩=false) (Q:World→Prop)
  (hF:Calls Tryz.prog 114 #[pv] (w.setCell ⟨b,off+1,none⟩ (.int .i32 1)) (OnceKept b off Q)):
  Calls Tryz.prog 118 #[.pointer (some ⟨b,off,none⟩),.func (.func 114) #[pv] #[]] w (OnceDone b off Q):=by
 have hl:=run_call_load (P:=Tryz.prog) Tryz.func124 (by kernel_rfl) (by kernel_rfl) (by kernel_rfl) .u32 (by kernel_rfl) (w:=w.setCell ⟨b,off+1,none⟩ (.int .i32 1)) (a:=⟨b,off,none⟩) (x:=0) ((World.cell?_setCell_other _ ⟨b,off+1,none⟩ ⟨b,off,none⟩ _ (by simp)).trans h0)
 have hnot:=not_run
 have HF:=Lib.hid hF
 clear hF
 go_enter_defers Tryz.func118,Tryz.ntmps118
 go_wp2_with (first|(go_at_call 125;refine (lock_free ⟨b,off+1,none⟩ _ (by go_simp) (by go_simp)).mono ?_;rintro e w' ⟨rfl,rfl⟩)|(go_at_call 117;go_in))
 refine HF.out.mono ?_
 rintro e w2 ⟨rfl,hq,k0,k1,z0,z1⟩
 go_wp2
 refine leaves_cons (f:=127) (args:=#[.pointer (some ⟨b,off,none⟩),.bool true]) (by simp) (by simp[go_sem]) ?_
 refine (store_deferred ⟨b,off,none⟩ (.int .u32 0) .returning _ k0 z0).mono ?_
 rintro e u' w'' ⟨rfl,rfl,rfl⟩
 refine leaves_cons (f:=126) (args:=#[.pointer (some ⟨b,off+1,none⟩)]) (by simp[settle]) (by simp[go_sem]) ?_
 refine (unlock_deferred ⟨b,off+1,none⟩ _ _ ?_ (by simp[z1])).mono ?_
 ·refine (World.cell?_setCell_other _ ⟨b,off,none⟩ ⟨b,off+1,none⟩ _ (by simp)).trans ?_
  rw[World.cell?_drew]
  exact k1
 rintro e u' w'' ⟨rfl,rfl,rfl⟩
 simp[Leaves,settle,results,Tryz.results118]
 exact⟨rfl,w2,hq,rfl⟩
theorem do_turn (b off:Nat) (pv:Value) (w:World) (h0:w.cell? ⟨b,off,none⟩=some (.int .u32 0)) (h1:w.cell? ⟨b,off+1,none⟩=some (.int .i32 0))
  (f0:w.frozen? ⟨b,off,none⟩=false) (f1:w.frozen? ⟨b,off+1,none⟩=false) (Q:World→Prop)
  (hF:Calls Tryz.prog 114 #[pv] (w.setCell ⟨b,off+1,none⟩ (.int .i32 1)) (OnceKept b off Q)):
  Calls Tryz.prog 103 #[.pointer (some ⟨b,off,none⟩),.func (.func 114) #[pv] #[]] w (OnceDone b off Q):=by
 have hl:=run_call_load (P:=Tryz.prog) Tryz.func124 (by kernel_rfl) (by kernel_rfl) (by kernel_rfl) .u32 (by kernel_rfl) h0
 have hnot:=not_run
 have HF:=Lib.hid hF
 clear hF
 go_enter Tryz.func103,Tryz.ntmps103
 go_wp2_with (first|(go_at_call 118;refine (slow_turn b off pv _ h0 h1 f0 f1 Q HF.out).mono ?_;rintro e w' ⟨rfl,hw⟩)|(go_at_call 117;go_in))
 go_end0
 exact⟨rfl,hw⟩
set_option maxRecDepth 100000 in
set_option maxHeartbeats 1600000 in
theorem slow_tell (b off:Nat) (pv:Value) (w:World) (h0:w.cell? ⟨b,off,none⟩=some (.int .u32 0)) (h1:w.cell? ⟨b,off+1,none⟩=some (.int .i32 0))
  (f0:w.frozen? ⟨b,off,none⟩=false) (f1:w.frozen? ⟨b,off+1,none⟩=false) (Q:World→Prop)
  (hF:Calls Tryz.prog 104 #[pv] (w.setCell ⟨b,off+1,none⟩ (.int .i32 1)) (OnceKept b off Q)):
  Calls Tryz.prog 118 #[.pointer (some ⟨b,off,none⟩),.func (.func 104) #[pv] #[]] w (OnceDone b off Q):=by
 have hl:=run_call_load (P:=Tryz.prog) Tryz.func124 (by kernel_rfl) (by kernel_rfl) (by kernel_rfl) .u32 (by kernel_rfl) (w:=w.setCell ⟨b,off+1,none⟩ (.int .i32 1)) (a:=⟨b,off,none⟩) (x:=0) ((World.cell?_setCell_other _ ⟨b,off+1,none⟩ ⟨b,off,none⟩ _ (by simp)).trans h0)
 have hnot:=not_run
 have HF:=Lib.hid hF
 clear hF
 go_enter_defers Tryz.func118,Tryz.ntmps118
 go_wp2_with (first|(go_at_call 125;refine (lock_free ⟨b,off+1,none⟩ _ (by go_simp) (by go_simp)).mono ?_;rintro e w' ⟨rfl,rfl⟩)|(go_at_call 117;go_in))
 refine HF.out.mono ?_
 rintro e w2 ⟨rfl,hq,k0,k1,z0,z1⟩
 go_wp2
 refine leaves_cons (f:=127) (args:=#[.pointer (some ⟨b,off,none⟩),.bool true]) (by simp) (by simp[go_sem]) ?_
 refine (store_deferred ⟨b,off,none⟩ (.int .u32 0) .returning _ k0 z0).mono ?_
 rintro e u' w'' ⟨rfl,rfl,rfl⟩
 refine leaves_cons (f:=126) (args:=#[.pointer (some ⟨b,off+1,none⟩)]) (by simp[settle]) (by simp[go_sem]) ?_
 refine (unlock_deferred ⟨b,off+1,none⟩ _ _ ?_ (by simp[z1])).mono ?_
 ·refine (World.cell?_setCell_other _ ⟨b,off,none⟩ ⟨b,off+1,none⟩ _ (by simp)).trans ?_
  rw[World.cell?_drew]
  exact k1
 rintro e u' w'' ⟨rfl,rfl,rfl⟩
 simp[Leaves,settle,results,Tryz.results118]
 exact⟨rfl,w2,hq,rfl⟩
theorem do_tell (b off:Nat) (pv:Value) (w:World) (h0:w.cell? ⟨b,off,none⟩=some (.int .u32 0)) (h1:w.cell? ⟨b,off+1,none⟩=some (.int .i32 0))
  (f0:w.frozen? ⟨b,off,none⟩=false) (f1:w.frozen? ⟨b,off+1,none⟩=false) (Q:World→Prop)
  (hF:Calls Tryz.prog 104 #[pv] (w.setCell ⟨b,off+1,none⟩ (.int .i32 1)) (OnceKept b off Q)):
  Calls Tryz.prog 103 #[.pointer (some ⟨b,off,none⟩),.func (.func 104) #[pv] #[]] w (OnceDone b off Q):=by
 have hl:=run_call_load (P:=Tryz.prog) Tryz.func124 (by kernel_rfl) (by kernel_rfl) (by kernel_rfl) .u32 (by kernel_rfl) h0
 have hnot:=not_run
 have HF:=Lib.hid hF
 clear hF
 go_enter Tryz.func103,Tryz.ntmps103
 go_wp2_with (first|(go_at_call 118;refine (slow_tell b off pv _ h0 h1 f0 f1 Q HF.out).mono ?_;rintro e w' ⟨rfl,hw⟩)|(go_at_call 117;go_in))
 go_end0
 exact⟨rfl,hw⟩
end Go.Proofs.YtgphnkkdmlohlaaGreatDoor
