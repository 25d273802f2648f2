/- Package dual at no map; parquetrylaw10.DualNil, the walk: it answers true. -/
import Derived.Test.YtklkgicjfnbndaaGreatZU31
import Derived.Test.YtklkgicjfnbndaaGreatZU27
import Derived.Test.YtklkgicjfnbndaaGreatZU24
import Derived.Test.YtklkgicjfnbndaaGreatZU33
import Derived.Test.YtklkgicjfnbndaaGreatZU19
import Derived.BigQuiet
namespace Go.Proofs.YtklkgicjfnbndaaGreat
section
open Go.RowKit
set_option linter.unusedVariables false
end
section
open Go.RowKit
set_option linter.unusedVariables false
set_option maxRecDepth 100000 in
set_option maxHeartbeats 1000000 in
theorem dshrink_loop (R:Reg) (w:World) (hI:Inv R w) (p:Value) (s:List Nat) (root lone:Int) (hp:MapAt R p s root lone) (e:Nat) (he:e<s.length / 2) (hnn:nth (namesL s) (2*e)=nth (namesL s) (2*e+1)):
  Calls Tryz.prog 20 #[p,.int .i64 (e:Int)] w fun z w'=>z=.returned (.tuple #[.pointer none,.int .i64 8])∧∃ R',Ev R w R' w':=by
 obtain⟨hS,hok⟩:=hp.ok hI
 have hn:=hok.2.1
 have hev:=hok.1
 have HOf:=Lib.hid (dof_any R w hI p s root lone hp e he)
 have HVx:=Lib.hid (fun R' w' (hee:Ev R w R' w') (d:Nat) (hd:d<s.length)=>(by
  have:=vertex_any R' w' hee.inv p s root lone (hee.map hp) (d:Int)
  rw[nameI_in hd] at this
  exact this:Calls Tryz.prog 65 #[p,.int .i64 (d:Int)] w' _))
 have hw2:IntKind.i64.wrap (2*(e:Int))=((2*e:Nat):Int):=by rw[show 2*(e:Int)=((2*e:Nat):Int) by omega];exact IntWalk.i64_in _ (by omega)
 have hw3:IntKind.i64.wrap (((2*e:Nat):Int)+1)=((2*e+1:Nat):Int):=by rw[show ((2*e:Nat):Int)+1=((2*e+1:Nat):Int) by omega];exact IntWalk.i64_in _ (by omega)
 obtain⟨n0,hn0⟩:∃ x,nth (namesL s) (2*e)=x:=⟨_,rfl⟩
 obtain⟨n1,hn1⟩:∃ x,nth (namesL s) (2*e+1)=x:=⟨_,rfl⟩
 have HV0:=Lib.hid (fun R' w' (hee:Ev R w R' w')=>HVx.out R' w' hee (2*e) (by omega))
 have HV1:=Lib.hid (fun R' w' (hee:Ev R w R' w')=>HVx.out R' w' hee (2*e+1) (by omega))
 rw[hn0] at HV0 hnn
 rw[hn1] at HV1 hnn
 have hbn:(n0 == n1)=true:=by simp[hnn]
 clear hI hS hok hn0 hn1 HVx hp hnn
 go_enter Tryz.func20,Tryz.ntmps20
 go_wp2_with fail
 refine HOf.out.mono ?_
 rintro z w2 ⟨b,a,cap,rfl,he2,hls⟩
 have HE2:=Lib.hid he2
 clear he2 hls
 go_wp2_with fail
 refine (HV0.out _ _ HE2.out).mono ?_
 rintro z w4 ⟨rfl,R4,he4⟩
 have HE4:=Lib.hid (HE2.out.trans he4)
 clear he4
 go_wp2_with fail
 refine (HV1.out _ _ HE4.out).mono ?_
 rintro z w5 ⟨rfl,R5,he5⟩
 have HE5:=Lib.hid (HE4.out.trans he5)
 clear he5
 go_wp2_with fail
 go_ret2
 exact⟨rfl,R5,HE5.out⟩
end
end Go.Proofs.YtklkgicjfnbndaaGreat
