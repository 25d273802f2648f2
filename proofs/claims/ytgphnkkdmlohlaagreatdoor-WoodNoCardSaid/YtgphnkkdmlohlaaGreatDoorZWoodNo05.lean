/- package perm: Back, with its memo. -/
import Derived.Test.YtgphnkkdmlohlaaGreatDoorZWoodNo03
import Derived.Test.YtgphnkkdmlohlaaGreatDoorZWoodNo04
import Derived.Test.YtgphnkkdmlohlaaGreatDoorZWoodNo01
namespace Go.Proofs.YtgphnkkdmlohlaaGreatDoor
section
open Go.RowKit
set_option linter.unusedVariables false
structure But (b:Nat) (w w':World):Prop where
 os:w'.os=w.os
 tape:w'.tape=w.tape
 output:w'.output=w.output
 size:w.heap.size≤w'.heap.size
 block:∀ k,k<w.heap.size→k≠b→w'.heap[k]?=w.heap[k]?
theorem But.refl (b:Nat) (w:World):But b w w:=⟨rfl,rfl,rfl,Nat.le_refl _,fun _ _ _=>rfl⟩
theorem But.trans {b:Nat} {w w1 w2:World} (h:But b w w1) (k:But b w1 w2):But b w w2:=
 ⟨k.os.trans h.os,k.tape.trans h.tape,k.output.trans h.output,Nat.le_trans h.size k.size,fun i hi hb=>(k.block i (Nat.lt_of_lt_of_le hi h.size) hb).trans (h.block i hi hb)⟩
theorem But.set {b:Nat} {w w1:World} (h:But b w w1) (o:Nat) (u:Value):But b w (w1.setCell ⟨b,o,none⟩ u):=
 h.trans ⟨rfl,rfl,rfl,by simp,fun k _ hk=>Below.heap_setCell _ _ _ _ hk⟩
theorem But.own {b:Nat} {w w1:World} (h:But b w w1) {p:Addr} (hp:w.heap.size≤p.block) (u:Value):But b w (w1.setCell p u):=
 ⟨h.os,h.tape,h.output,by simpa using h.size,fun k hk hb=>by rw[Below.heap_setCell _ _ _ _ (by omega)];exact h.block k hk hb⟩
theorem But.drew {b:Nat} {w w1:World} (h:But b w w1):But b w w1.drew:=⟨h.os,h.tape,h.output,h.size,h.block⟩
theorem But.of_grown {b:Nat} {w w1 w2:World} (h:But b w w1) (hg:w1.grownBy w2 none):But b w w2:=
 h.trans ⟨hg.os,hg.tape,hg.output,hg.size,fun k hk _=>hg.block k hk (by simp)⟩
theorem invGo_succ (s:List Nat) (k:Nat):invGo s (k+1)=(invGo s k).set (at' s k) k:=by
 simp[invGo,List.range_succ]
theorem invGo_length (s:List Nat) (k:Nat):(invGo s k).length=s.length:=by
 induction k with
 | zero=>simp[invGo]
 | succ k ih=>rw[invGo_succ,List.length_set,ih]
theorem toI_set (s:List Nat) (i x:Nat):toI (s.set i x)=(toI s).set i (x:Int):=by simp[toI]
def TurnQ (b T:Nat) (vto:Value) (s:List Nat) (W w':World):Prop:=
 But b W w'∧∃ g,W.heap.size≤g∧w'.heap[b]?=some (.cells #[vto,.int .u32 0,.int .i32 1,.int .u32 0,.slice (some ⟨g,0,none⟩) s.length s.length] T (0,0)) ∧
  w'.heap[g]?=some (.cells ((toI (invL s)).map (Value.int .i64)).toArray 3 (0,0))
set_option maxRecDepth 100000 in
set_option maxHeartbeats 1000000 in
theorem turn_any (b T:Nat) (a:Option Addr) (cap:Nat) (s:List Nat) (hS:IsPerm s) (hn:s.length≤4194304) (W:World) (hb:W.heap[b]?=some (.cells #[.slice a s.length cap,.int .u32 0,.int .i32 1,.int .u32 0,.slice none 0 0] T (0,0)))
  (hto:∀ w',But b W w'→Ints w' (.slice a s.length cap) (toI s)):
  Calls Tryz.prog 114 #[.pointer (some ⟨b,0,none⟩)] W (OnceKept b 1 (TurnQ b T (.slice a s.length cap) s W)):=by
 obtain⟨n,hl⟩:∃ n,s.length=n:=⟨_,rfl⟩
 have HL:=Lib.hid hl
 rw[hl] at hb hto hn ⊢
 have hblt:=lt_of_block hb
 have c0:W.cell? ⟨b,0,none⟩=some (.slice a n cap):=by simp[World.cell?,hb]
 have HS:=Lib.hid hS
 have HB:=Lib.hid hb
 have HT:=Lib.hid hto
 obtain⟨i0,hi,hz0,hz1,hz2⟩:=info_parts int_info
 clear hS hb hto hl
 go_enter Tryz.func114,Tryz.ntmps114
 go_wp2_with (refine wpList_make_full _ rfl _ _ 25 rfl W.heap.size 3 i0 (.int .i64 0) 1 Tryz.underlying25 hi hz0 hz1 .i64 .i64 (n:Int) (n:Int) n rfl rfl rfl rfl ?q1 ?q2 (Nat.le_refl _) ?_)
 case q1=>rw[hz2];omega
 case q2=>unfold maxLen;omega
 intro w1 ho1 hg1
 have hcur:w1.heap[W.heap.size]?=some (.cells ((toI (invGo s 0)).map (Value.int .i64)).toArray 3 (0,0)):=by
  obtain⟨h1,h2⟩:=ho1
  rcases h2 with ⟨h2,_⟩|⟨g,cap',cur,hv,hg,hh,hn',hm,hs,ht⟩
  ·cases h2
  ·cases hv
   rw[hh]
   have:cur.toList=List.replicate n (.int .i64 0):=by
    have hs':cur.toList.length=n:=by simpa using hs
    rw[List.take_of_length_le (by omega)] at ht
    rw[ht]
    simpa using toList_madeCells_one (.int .i64 0) n
   have h2:cur=(List.replicate n (Value.int .i64 0)).toArray:=by rw[←this]
   rw[h2]
   simp[invGo,toI,HL.out]
 have hbt:But b W w1:=(But.refl b W).of_grown hg1
 have hb1:w1.heap[b]?=some (.cells #[.slice a n cap,.int .u32 0,.int .i32 1,.int .u32 0,.slice none 0 0] T (0,0)):=(hg1.block b hblt (by simp)).trans HB.out
 have c4:w1.cell? ⟨b,4,none⟩=some (.slice none 0 0):=by simp[World.cell?,hb1]
 have z4:w1.frozen? ⟨b,4,none⟩=false:=by simp[World.frozen?,hb1]
 have HCUR:=Lib.hid hcur
 have HBT:=Lib.hid hbt
 have HB1:=Lib.hid hb1
 clear ho1 hg1 hcur hbt hb1 c0
 have c0':w1.cell? ⟨b,0,none⟩=some (.slice a n cap):=by simp[World.cell?,HB1.out]
 go_wp2_with fail
 have hb2:(w1.setCell ⟨b,4,none⟩ (.slice (some ⟨W.heap.size,0,none⟩) n n)).heap[b]?=some (.cells #[.slice a n cap,.int .u32 0,.int .i32 1,.int .u32 0,.slice (some ⟨W.heap.size,0,none⟩) n n] T (0,0)):=by
  rw[heap_setCell_same _ _ _ _ _ _ HB1.out];rfl
 have hc2:(w1.setCell ⟨b,4,none⟩ (.slice (some ⟨W.heap.size,0,none⟩) n n)).heap[W.heap.size]?=some (.cells ((toI (invGo s 0)).map (Value.int .i64)).toArray 3 (0,0)):=by
  rw[Below.heap_setCell _ _ _ _ (by simp;omega)];exact HCUR.out
 have HB2:=Lib.hid hb2
 have HC2:=Lib.hid hc2
 clear hb2 hc2 c4 z4 c0'
 go_loopg [18] n (fun g v18 wr=>∃ k:Nat,k≤n∧n-k≤g∧v18=.int .i64 (k:Int)∧wr.heap[W.heap.size]?=some (.cells ((toI (invGo s k)).map (Value.int .i64)).toArray 3 (0,0)) ∧
  wr.heap[b]?=some (.cells #[.slice a n cap,.int .u32 0,.int .i32 1,.int .u32 0,.slice (some ⟨W.heap.size,0,none⟩) n n] T (0,0))∧But b W wr)
 case atStart=>exact⟨0,Nat.zero_le _,by omega,rfl,HC2.out,HB2.out,HBT.out.set _ _⟩
 case round=>
  obtain⟨k,hk,hg,rfl,hcu,hbb,hbe⟩:=hrel
  have HCU:=Lib.hid hcu
  have HBB:=Lib.hid hbb
  have HBE:=Lib.hid hbe
  clear hcu hbb hbe
  by_cases hkn:k<n
  ·obtain⟨b',off,rfl,hc⟩:=(HT.out wr HBE.out).cell (i:=k) (by rw[toI_length,HL.out];exact hkn)
   rw[toI_nth] at hc
   have hx:at' s k<n:=by have:=HS.out.lt (i:=k) (by rw[HL.out];exact hkn);rw[HL.out] at this;exact this
   obtain⟨x,hxe⟩:∃ x,at' s k=x:=⟨_,rfl⟩
   rw[hxe] at hx hc
   have HX:=Lib.hid hxe
   have c4:wr.cell? ⟨b,4,none⟩=some (.slice (some ⟨W.heap.size,0,none⟩) n n):=by simp[World.cell?,HBB.out]
   have cx:wr.cell? ⟨W.heap.size,x,none⟩=some (.int .i64 (nth (toI (invGo s k)) x)):=by
    unfold World.cell?
    rw[HCU.out]
    have:x<(toI (invGo s k)).length:=by rw[toI_length,invGo_length,HL.out];exact hx
    simp[nth,this]
   have zx:wr.frozen? ⟨W.heap.size,x,none⟩=false:=by simp[World.frozen?,HCU.out]
   clear hxe
   go_wp2_with fail
   have hc3:(wr.setCell ⟨W.heap.size,x,none⟩ (.int .i64 (k:Int))).heap[W.heap.size]?=some (.cells ((toI (invGo s (k+1))).map (Value.int .i64)).toArray 3 (0,0)):=by
    rw[heap_setCell_same _ _ _ _ _ _ HCU.out,invGo_succ,toI_set,HX.out]
    simp
   have hb3:(wr.setCell ⟨W.heap.size,x,none⟩ (.int .i64 (k:Int))).heap[b]?=some (.cells #[.slice (some ⟨b',off,none⟩) n cap,.int .u32 0,.int .i32 1,.int .u32 0,.slice (some ⟨W.heap.size,0,none⟩) n n] T (0,0)):=by
    rw[Below.heap_setCell _ _ _ _ (by simp;omega)];exact HBB.out
   have HC3:=Lib.hid hc3
   have HB3:=Lib.hid hb3
   clear hc3 hb3 c4 cx zx hc
   go_roundg (n-(k+1))
   case measure=>omega
   case rel=>exact⟨k+1,by omega,by omega,by go_num,HC3.out,HB3.out,HBE.out.own (Nat.le_refl _) _⟩
  ·obtain rfl:k=n:=by omega
   go_wp2_with fail
   go_end0
   have hb:=HBB.out
   refine⟨rfl,⟨HBE.out,W.heap.size,Nat.le_refl _,?_,?_⟩,?_,?_,?_,?_⟩
   ·rw[HL.out];exact hb
   ·have:=HCU.out;rw[←HL.out] at this;exact this
   all_goals simp[World.cell?,World.frozen?,hb]
theorem Ev.memo {R R1:Reg} {w w':World} {b:Nat} {r:Kind} (hI:Inv R w) (hb:R b=some r) (hbt:But b w w') (hk:∀ k x,R k=some x→R1 k=some x) (hf:∀ k,k<w.heap.size→R k=none→R1 k=none)
  (hn:∀ k x,R1 k=some x→(R k=some x∧k≠b)∨KindOk R1 w' k x):Ev R w R1 w':=
 ⟨hbt.os,hbt.tape,hbt.output,hbt.size,fun k hlt hr=>hbt.block k hlt (fun e=>by rw[e,hb] at hr;cases hr),hk,hf,fun k x hx=>by
  rcases hn k x hx with ⟨h1,h2⟩|h
  ·exact (hI k x h1).mono hk (hbt.block k (hI k x h1).lt h2)
  ·exact h⟩
def RetV (R:Reg) (w:World) (v:Value) (e:Ending) (w':World):Prop:=e=.returned v∧∃ R',Ev R w R' w'
def backI (s:List Nat) (i:Int):Int:=if 0≤i∧i<s.length then ((at' (invL s) i.toNat:Nat):Int) else -1
theorem backI_out {s:List Nat} {i:Int} (h:i<0∨(s.length:Int)≤i):backI s i=-1:=by
 unfold backI;rw[if_neg (by omega)]
theorem backI_in {s:List Nat} {i:Nat} (h:i<s.length):backI s (i:Int)=((at' (invL s) i:Nat):Int):=by
 unfold backI;rw[if_pos (by omega)];simp
theorem makeFunc_run (fn:Fn) (first cap:Array Value) (w:World):(Instr.makeFunc fn first cap).run Tryz.prog w=.ok (.func fn first cap) w:=rfl
theorem turn_done {R:Reg} {w:World} (hI:Inv R w) {b:Nat} {s:List Nat} (hb:R b=some (.inr (.inl s))) {T:Nat} {vto:Value} (hto:FixI R vto (toI s))
  (hw:w.heap[b]?=some (.cells #[vto,.int .u32 0,.int .i32 0,.int .u32 0,.slice none 0 0] T (0,0))) {w2:World} (hq:TurnQ b T vto s (w.setCell ⟨b,1+1,none⟩ (.int .i32 1)) w2):
  ∃ R' vf,Ev R w R' ((w2.drew.setCell ⟨b,1,none⟩ (.int .u32 1)).setCell ⟨b,1+1,none⟩ (.int .i32 0))∧FixI R' vf (toI (invL s)) ∧
   ((w2.drew.setCell ⟨b,1,none⟩ (.int .u32 1)).setCell ⟨b,1+1,none⟩ (.int .i32 0)).cell? ⟨b,4,none⟩=some vf:=by
 obtain⟨hbt,g,hg,h1,h2⟩:=hq
 simp only[World.size_setCell] at hg
 obtain⟨hS,hn,_⟩:=hI _ _ hb
 have hlt:=lt_of_block hw
 have hnone:R g=none:=hI.none_of_ge hg
 have hbt':But b w ((w2.drew.setCell ⟨b,1,none⟩ (.int .u32 1)).setCell ⟨b,1+1,none⟩ (.int .i32 0)):=((((But.refl b w).set _ _).trans hbt).drew.set _ _).set _ _
 have hnew:((w2.drew.setCell ⟨b,1,none⟩ (.int .u32 1)).setCell ⟨b,1+1,none⟩ (.int .i32 0)).heap[b]?=some (.cells #[vto,.int .u32 1,.int .i32 0,.int .u32 0,.slice (some ⟨g,0,none⟩) s.length s.length] T (0,0)):=by
  have e1:(w2.drew.setCell ⟨b,1,none⟩ (.int .u32 1)).heap[b]?=some (.cells #[vto,.int .u32 1,.int .i32 1,.int .u32 0,.slice (some ⟨g,0,none⟩) s.length s.length] T (0,0)):=
   heap_setCell_same w2.drew b 1 _ _ _ h1
  exact heap_setCell_same _ b 2 _ _ _ e1
 have hgb:g≠b:=by omega
 have hgd:((w2.drew.setCell ⟨b,1,none⟩ (.int .u32 1)).setCell ⟨b,1+1,none⟩ (.int .i32 0)).heap[g]?=some (.cells ((toI (invL s)).map (Value.int .i64)).toArray 3 (0,0)):=by
  rw[Below.heap_setCell _ _ _ _ (by simpa using hgb),Below.heap_setCell _ _ _ _ (by simpa using hgb)]
  exact h2
 have hfin:FixI (R.put g (.inl (.cells ((toI (invL s)).map (Value.int .i64)).toArray 3 (0,0)))) (.slice (some ⟨g,0,none⟩) s.length s.length) (toI (invL s)):=by
  have hlen:(toI (invL s)).length=s.length:=by rw[toI_length];unfold invL;rw[invGo_length]
  refine⟨some ⟨g,0,none⟩,s.length,by rw[hlen],by rw[hlen];exact Nat.le_refl _,by unfold maxLen;omega,fun i hi=>?_⟩
  refine⟨g,0,_,_,_,rfl,Reg.put_same _ _ _,?_⟩
  simp[nth,hi]
 refine⟨R.put g (.inl (.cells ((toI (invL s)).map (Value.int .i64)).toArray 3 (0,0))),_,Ev.memo hI hb hbt' (Reg.put_keeps _ hnone) (fun k hk hr=>?_) (fun k x hx=>?_),hfin,by simp[World.cell?,hnew]⟩
 ·unfold Reg.put;rw[if_neg (by omega)];exact hr
 ·by_cases hkb:k=b
  ·subst hkb
   have:x=.inr (.inl s):=by
    unfold Reg.put at hx
    rw[if_neg (fun e=>hgb e.symm),hb] at hx
    exact (Option.some.inj hx).symm
   subst this
   exact Or.inr ⟨hS,hn,vto,T,1,_,hnew,hto.mono (Reg.put_keeps _ hnone),Or.inr ⟨rfl,hfin⟩⟩
  ·by_cases hkg:k=g
   ·subst hkg
    rw[Reg.put_same] at hx
    cases hx
    exact Or.inr hgd
   ·unfold Reg.put at hx
    rw[if_neg hkg] at hx
    exact Or.inl ⟨hx,hkb⟩
set_option maxRecDepth 100000 in
set_option maxHeartbeats 1000000 in
theorem back_any (R:Reg) (w:World) (hI:Inv R w) (p:Value) (s:List Nat) (hp:PermAt R p s) (i:Int):
  Calls Tryz.prog 101 #[p,.int .i64 i] w (RetV R w (.int .i64 (backI s i))):=by
 have HL:=Lib.hid (len_any R w hI p s hp)
 have hmf:=makeFunc_run
 obtain⟨b,rfl,hb⟩:=hp
 by_cases h0:i<0
 ·have HA:=Lib.hid (backI_out (s:=s) (Or.inl h0))
  have HI:=Lib.hid hI
  clear hI hb
  go_enter Tryz.func101,Tryz.ntmps101
  go_wp2_with fail
  go_ret
  exact⟨ret_int HA.out.symm,R,Ev.refl HI.out⟩
 ·by_cases h1:(s.length:Int)≤i
  ·have HA:=Lib.hid (backI_out (s:=s) (Or.inr h1))
   have HI:=Lib.hid hI
   clear hI hb
   go_enter Tryz.func101,Tryz.ntmps101
   go_wp2_with (go_at_call 65;refine HL.out.mono ?_;rintro e w' ⟨rfl,rfl⟩)
   go_ret
   exact⟨ret_int HA.out.symm,R,Ev.refl HI.out⟩
  ·obtain⟨k,rfl⟩:=Int.eq_ofNat_of_zero_le (show 0≤i by omega)
   have hk:k<s.length:=by omega
   have HA:=Lib.hid (backI_in hk)
   have h2:decide (s.length≤k)=false:=by simp;omega
   have h3:¬ ((k:Int)<0):=by omega
   obtain⟨hS,hn,vto,T,d,vf,ho,hfx,hd⟩:=hI _ _ hb
   have HI:=Lib.hid hI
   have HB:=Lib.hid hb
   have HO:=Lib.hid ho
   clear h0 h1 hI hb
   rcases hd with ⟨rfl,rfl⟩|⟨rfl,hvf⟩
   ·obtain⟨a,cap,rfl,_⟩:=id hfx
    rw[toI_length] at HO
    have hfx':FixI R (.slice a s.length cap) (toI s):=by rw[toI_length] at hfx;exact hfx
    have HF:=Lib.hid hfx'
    have c1:w.cell? ⟨b,1,none⟩=some (.int .u32 0):=by simp[World.cell?,HO.out]
    have c2:w.cell? ⟨b,1+1,none⟩=some (.int .i32 0):=by simp[World.cell?,HO.out]
    have z1:w.frozen? ⟨b,1,none⟩=false:=by simp[World.frozen?,HO.out]
    have z2:w.frozen? ⟨b,1+1,none⟩=false:=by simp[World.frozen?,HO.out]
    have hW:(w.setCell ⟨b,1+1,none⟩ (.int .i32 1)).heap[b]?=some (.cells #[.slice a s.length cap,.int .u32 0,.int .i32 1,.int .u32 0,.slice none 0 0] T (0,0)):=
     heap_setCell_same w b 2 _ _ _ HO.out
    have htn:=turn_any b T a cap s hS hn _ hW (fun w' hbt=>by
     obtain⟨a',cap',e1,e2,e3,e4⟩:=HF.out
     refine⟨a',cap',e1,e2,e3,fun j hj=>?_⟩
     obtain⟨b',off,c,T',f,e5,e6,e7⟩:=e4 j hj
     have hbb:b'≠b:=fun e=>by rw[e,HB.out] at e6;cases e6
     have hh:w.heap[b']?=some (.cells c T' f):=HI.out _ _ e6
     have hh':w'.heap[b']?=some (.cells c T' f):=by
      rw[hbt.block b' (by simpa using lt_of_block hh) hbb,Below.heap_setCell _ _ _ _ hbb]
      exact hh
     exact⟨b',off,e5,by simp[World.cell?,hh',e7]⟩)
    have hdo:=do_turn b 1 (.pointer (some ⟨b,0,none⟩)) w c1 c2 z1 z2 _ htn
    have HD:=Lib.hid hdo
    clear hfx hfx' c1 c2 z1 z2 hW htn hdo ho
    go_enter Tryz.func101,Tryz.ntmps101
    go_wp2_with (go_at_call 65;refine HL.out.mono ?_;rintro e w' ⟨rfl,rfl⟩)
    refine HD.out.mono ?_
    rintro e w3 ⟨rfl,w2,hq,hw3⟩
    obtain⟨R',vf,he,hvf,c4⟩:=turn_done HI.out HB.out HF.out HO.out hq
    rw[←hw3] at he c4
    obtain⟨a',cap',rfl,_⟩:=id hvf
    rw[toI_length,show (invL s).length=s.length from invGo_length _ _] at c4 hvf
    obtain⟨b',off,rfl,hc⟩:=hvf.cell he.inv (i:=k) (by rw[show (invL s).length=s.length from invGo_length _ _];exact hk)
    have HE:=Lib.hid he
    clear hvf he hq hw3
    go_wp2_with fail
    go_ret
    exact⟨ret_int HA.out.symm,R',HE.out⟩
   ·obtain⟨a',cap',rfl,_⟩:=id hvf
    rw[toI_length,show (invL s).length=s.length from invGo_length _ _] at hvf HO
    obtain⟨b',off,rfl,hc⟩:=hvf.cell HI.out (i:=k) (by rw[show (invL s).length=s.length from invGo_length _ _];exact hk)
    have c1:w.cell? ⟨b,1,none⟩=some (.int .u32 1):=by simp[World.cell?,HO.out]
    have c4:w.cell? ⟨b,4,none⟩=some (.slice (some ⟨b',off,none⟩) s.length cap'):=by simp[World.cell?,HO.out]
    have hdo:=do_done ⟨b,1,none⟩ (.func (.func 114) #[.pointer (some ⟨b,0,none⟩)] #[]) w c1
    have HD:=Lib.hid hdo
    clear hfx hvf hdo c1 ho
    go_enter Tryz.func101,Tryz.ntmps101
    go_wp2_with (first|(go_at_call 65;refine HL.out.mono ?_;rintro e w' ⟨rfl,rfl⟩)|(go_at_call 103;refine HD.out.mono ?_;rintro e w' ⟨rfl,rfl⟩))
    go_ret
    exact⟨ret_int HA.out.symm,R,Ev.refl HI.out⟩
end
section
set_option linter.unusedVariables false
theorem IsPerm.it_back {s:List Nat} (h:IsPerm s) {i:Nat} (hi:i<s.length) (a:Nat):∃ j,it s j (it s a i)=i:=by
 induction a with
 | zero=>exact⟨0,rfl⟩
 | succ a ih=>
  obtain⟨j,hj⟩:=ih
  obtain⟨d,hd,_,e⟩:=h.cycle (h.it_lt hi a)
  obtain⟨d',rfl⟩:∃ d',d=d'+1:=⟨d-1,by omega⟩
  refine⟨j+d',?_⟩
  rw[it_add,it_succ,show it s d' (at' s (it s a i))=it s a i from e,hj]
theorem namesGo_sep {s:List Nat} (hs:IsPerm s) (k:Nat) (hk:k≤s.length):∀ x y,x<s.length→y<s.length→0≤nth (namesGo s k).1 x→nth (namesGo s k).1 x=nth (namesGo s k).1 y→∃ j,it s j x=y:=by
 induction k with
 | zero=>
  intro x y hx hy h0
  rw[namesGo_zero] at h0
  have:nth (List.replicate s.length (-1)) x=-1:=by simp[nth,hx]
  rw[this] at h0
  exact absurd h0 (by decide)
 | succ k ih=>
  have ih:=ih (by omega)
  have hk':k<s.length:=by omega
  have hI:=namesGo_inv hs k (by omega)
  rw[namesGo_succ]
  obtain⟨N,C,hNC⟩:∃ N C,namesGo s k=(N,C):=⟨_,_,rfl⟩
  rw[hNC] at hI ih ⊢
  have hg:N.getD k (-1)=nth N k:=by
   have:k<N.length:=by rw[hI.length];exact hk'
   simp[nth,this]
  by_cases hold:0≤nth N k
  ·rw[nameStep,if_pos (show 0≤(N,C).1.getD k (-1) from by rw[hg];exact hold)]
   exact ih
  ·have hst:nameStep s (N,C) k=((orbitL s k).foldl (fun l x=>l.set x (C:Int)) N,C+1):=by
    unfold nameStep
    rw[if_neg (show ¬ 0≤(N,C).1.getD k (-1) from by rw[hg];exact hold)]
   rw[hst]
   have hlt:∀ x∈orbitL s k,x<N.length:=by rw[hI.length];exact orbitL_lt hs hk'
   have hn:=nth_foldl_set (orbitL s k) (C:Int) N hlt
   intro x y hx hy h0 he
   have h0:0≤nth ((orbitL s k).foldl (fun l x=>l.set x (C:Int)) N) x:=h0
   have he:nth ((orbitL s k).foldl (fun l x=>l.set x (C:Int)) N) x=nth ((orbitL s k).foldl (fun l x=>l.set x (C:Int)) N) y:=he
   rw[hn] at h0
   rw[hn,hn] at he
   have vx:=hI.val x hx
   have vy:=hI.val y hy
   simp only at vx vy ih
   by_cases ex:x∈orbitL s k
   ·by_cases ey:y∈orbitL s k
    ·obtain⟨a,rfl⟩:=(hs.mem_orbit hk').1 ex
     obtain⟨b,rfl⟩:=(hs.mem_orbit hk').1 ey
     obtain⟨j,hj⟩:=hs.it_back hk' a
     exact⟨b+j,by rw[it_add,hj]⟩
    ·rw[if_pos ex,if_neg ey] at he
     omega
   ·by_cases ey:y∈orbitL s k
    ·rw[if_neg ex,if_pos ey] at he
     omega
    ·rw[if_neg ex] at h0
     rw[if_neg ex,if_neg ey] at he
     exact ih x y hx hy h0 he
theorem names_orbit {s:List Nat} (hs:IsPerm s) {k:Nat} (hk:k<s.length) {d:Nat}:d∈orbitL s k↔d<s.length∧nth (namesL s) d=nth (namesL s) k:=by
 have hI:=namesGo_inv hs s.length (Nat.le_refl _)
 constructor
 ·intro h
  refine⟨orbitL_lt hs hk d h,?_⟩
  obtain⟨j,rfl⟩:=(hs.mem_orbit hk).1 h
  exact hI.it hs hk j
 ·intro ⟨hd,he⟩
  rw[hs.mem_orbit hk]
  exact namesGo_sep hs s.length (Nat.le_refl _) k d hk hd (hI.told k hk hk) he.symm
theorem orbitGo_it' {s:List Nat} {i:Nat}:∀ (f x y:Nat),y∈orbitGo s i f x→∃ j,it s j x=y∧∀ j',j'≤j→it s j' x≠i
 | 0,x,y,h=>by simp[orbitGo] at h
 | f+1,x,y,h=>by
  unfold orbitGo at h
  split at h
  ·simp at h
  ·rename_i hx
   have hx:x≠i:=by simpa using hx
   rcases List.mem_cons.1 h with rfl|h
   ·refine⟨0,rfl,fun j' hj'=>?_⟩
    have e:j'=0:=Nat.le_zero.1 hj'
    rw[e]
    exact hx
   ·obtain⟨j,h1,h2⟩:=orbitGo_it' f _ _ h
    refine⟨j+1,h1,fun j' hj'=>?_⟩
    rcases j' with _|j'
    ·exact hx
    ·exact h2 j' (by omega)
theorem orbitGo_nodup {s:List Nat} {i:Nat}:∀ (f x:Nat),Reach s i f x→(orbitGo s i f x).Nodup
 | 0,x,_=>by simp[orbitGo]
 | f+1,x,h=>by
  by_cases hx:x=i
  ·subst hx;rw[orbitGo_end];exact List.nodup_nil
  ·obtain⟨f',e,hr⟩:=h.next hx
   obtain rfl:f'=f:=by omega
   rw[orbitGo_next hx,List.nodup_cons]
   refine⟨fun hm=>?_,orbitGo_nodup _ _ hr⟩
   obtain⟨j,h1,h2⟩:=orbitGo_it' _ _ _ hm
   have hno:∀ J,it s J x≠i:=by
    intro J
    induction J using Nat.strongRecOn with
    | ind J ih=>
     rcases J with _|J
     ·exact hx
     ·by_cases hJ:J≤j
      ·exact h2 J hJ
      ·have e2:it s (J+1) x=it s (J-j) x:=by
        rw[show J+1=(J-j)+(j+1) by omega,it_add]
        rw[show it s (j+1) x=x from h1]
       rw[e2]
       exact ih _ (by omega)
   obtain⟨J,_,hJ⟩:=h
   exact hno J hJ
theorem orbitL_nodup {s:List Nat} (hs:IsPerm s) {i:Nat} (hi:i<s.length):(orbitL s i).Nodup:=by
 unfold orbitL
 rw[List.nodup_cons]
 refine⟨fun h=>?_,orbitGo_nodup _ _ (hs.reach hi)⟩
 obtain⟨j,h1,h2⟩:=orbitGo_it' _ _ _ h
 exact h2 j (Nat.le_refl _) h1
theorem invGo_at {s:List Nat} (hs:IsPerm s) (k:Nat) (hk:k≤s.length):∀ x,x<k→at' (invGo s k) (at' s x)=x:=by
 induction k with
 | zero=>intro x hx;omega
 | succ k ih=>
  intro x hx
  have hkl:k<s.length:=by omega
  rw[invGo_succ,at'_set (by rw[invGo_length];exact hs.lt hkl)]
  by_cases e:x=k
  ·subst e;rw[if_pos rfl]
  ·rw[if_neg (fun h=>e (hs.inj (show x<s.length by omega) hkl h.symm)),ih (by omega) x (by omega)]
theorem invL_at {s:List Nat} (hs:IsPerm s) {x:Nat} (hx:x<s.length):at' (invL s) (at' s x)=x:=invGo_at hs _ (Nat.le_refl _) x hx
theorem at_invL {s:List Nat} (hs:IsPerm s) {y:Nat} (hy:y<s.length):at' s (at' (invL s) y)=y∧at' (invL s) y<s.length:=by
 obtain⟨d,hd,_,e⟩:=hs.cycle hy
 obtain⟨d',rfl⟩:∃ d',d=d'+1:=⟨d-1,by omega⟩
 rw[it_succ] at e
 have hx:=hs.it_lt hy d'
 have h1:=invL_at hs hx
 rw[e] at h1
 rw[h1]
 exact⟨e,hx⟩
end
section
set_option linter.unusedVariables false
noncomputable def ind (p:Prop):Nat:=@ite Nat p (Classical.propDecidable p) 1 0
theorem ind_yes {p:Prop} (h:p):ind p=1:=by unfold ind;exact if_pos h
theorem ind_no {p:Prop} (h:¬ p):ind p=0:=by unfold ind;exact if_neg h
theorem ind_congr {p q:Prop} (h:p↔q):ind p=ind q:=by rw[propext h]
theorem ind_le (p:Prop):ind p≤1:=by
 by_cases h:p
 ·rw[ind_yes h];exact Nat.le_refl _
 ·rw[ind_no h];omega
noncomputable def tally (p:Nat→Prop):Nat→Nat
 | 0=>0
 | k+1=>tally p k+ind (p k)
theorem tally_zero' (p:Nat→Prop):tally p 0=0:=rfl
theorem tally_succ (p:Nat→Prop) (k:Nat):tally p (k+1)=tally p k+ind (p k):=rfl
theorem tally_congr {p q:Nat→Prop}:∀ {n:Nat},(∀ k,k<n→(p k↔q k))→tally p n=tally q n
 | 0,_=>rfl
 | n+1,h=>by rw[tally_succ,tally_succ,tally_congr fun k hk=>h k (by omega),ind_congr (h n (by omega))]
theorem tally_le (p:Nat→Prop):∀ n,tally p n≤n
 | 0=>Nat.le_refl _
 | n+1=>by rw[tally_succ];have:=tally_le p n;have:=ind_le (p n);omega
theorem tally_none {p:Nat→Prop}:∀ {n:Nat},(∀ k,k<n→¬ p k)→tally p n=0
 | 0,_=>rfl
 | n+1,h=>by rw[tally_succ,tally_none fun k hk=>h k (by omega),ind_no (h n (by omega))]
theorem tally_all {p:Nat→Prop}:∀ {n:Nat},(∀ k,k<n→p k)→tally p n=n
 | 0,_=>rfl
 | n+1,h=>by rw[tally_succ,tally_all fun k hk=>h k (by omega),ind_yes (h n (by omega))]
theorem tally_split (p q:Nat→Prop):∀ n,tally p n=tally (fun k=>p k∧q k) n+tally (fun k=>p k∧¬ q k) n
 | 0=>rfl
 | n+1=>by
  rw[tally_succ,tally_succ,tally_succ,tally_split p q n]
  by_cases hp:p n
  ·by_cases hq:q n
   ·rw[ind_yes hp,ind_yes ⟨hp,hq⟩,ind_no (fun h=>h.2 hq)];omega
   ·rw[ind_yes hp,ind_no (fun h=>hq h.2),ind_yes ⟨hp,hq⟩];omega
  ·rw[ind_no hp,ind_no (fun h=>hp h.1),ind_no (fun h=>hp h.1)];omega
theorem tally_but {p:Nat→Prop} {a:Nat}:∀ {n:Nat},a<n→p a→tally p n=tally (fun k=>p k∧k≠a) n+1
 | n+1,h,hp=>by
  rw[tally_succ,tally_succ]
  by_cases e:a=n
  ·subst e
   rw[ind_yes hp,ind_no (fun h=>h.2 rfl),tally_congr (q:=fun k=>p k∧k≠a) fun k hk=>⟨fun h=>⟨h,by omega⟩,fun h=>h.1⟩]
  ·rw[tally_but (show a<n by omega) hp,ind_congr (p:=p n) (q:=p n∧n≠a) ⟨fun h=>⟨h,fun h'=>e h'.symm⟩,fun h=>h.1⟩]
   omega
theorem tally_pos {p:Nat→Prop} {a n:Nat} (h:a<n) (hp:p a):0<tally p n:=by rw[tally_but h hp];omega
theorem tally_inj (f:Nat→Nat) {p:Nat→Prop} {m:Nat}:∀ {n:Nat} {q:Nat→Prop},(∀ x,x<n→p x→f x<m∧q (f x))→(∀ x y,x<n→y<n→p x→p y→f x=f y→x=y)→tally p n≤tally q m
 | 0,_,_,_=>Nat.zero_le _
 | n+1,q,h1,h2=>by
  rw[tally_succ]
  by_cases hp:p n
  ·obtain⟨a,b⟩:=h1 n (by omega) hp
   rw[ind_yes hp,tally_but a b]
   have:=tally_inj f (n:=n) (q:=fun k=>q k∧k≠f n) (fun x hx hpx=>⟨(h1 x (by omega) hpx).1,(h1 x (by omega) hpx).2,fun e=>by
    have:=h2 x n (by omega) (by omega) hpx hp e
    omega⟩) (fun x y hx hy=>h2 x y (by omega) (by omega))
   omega
  ·rw[ind_no hp]
   exact tally_inj f (fun x hx=>h1 x (by omega)) (fun x y hx hy=>h2 x y (by omega) (by omega))
theorem tally_mono {p q:Nat→Prop} {n:Nat} (h:∀ x,x<n→p x→q x):tally p n≤tally q n:=
 tally_inj (fun x=>x) (fun x hx hp=>⟨hx,h x hx hp⟩) (fun x y _ _ _ _ e=>e)
structure Per (n:Nat) (r:Nat→Nat→Prop):Prop where
 refl:∀ {x},x<n→r x x
 symm:∀ {x y},r x y→r y x
 trans:∀ {x y z},r x y→r y z→r x z
 dom:∀ {x y},r x y→x<n
def Least (r:Nat→Nat→Prop) (x:Nat):Prop:=∀ y,y<x→¬ r y x
noncomputable def cls (r:Nat→Nat→Prop) (P:Nat→Prop) (n:Nat):Nat:=tally (fun x=>P x∧Least r x) n
def mrg (r:Nat→Nat→Prop) (a b x y:Nat):Prop:=r x y∨(r x a∧r b y)∨(r x b∧r a y)
theorem Per.least {n:Nat} {r:Nat→Nat→Prop} (h:Per n r):∀ (x:Nat),x<n→∃ l,l≤x∧r l x∧Least r l:=by
 intro x
 induction x using Nat.strongRecOn with
 | ind x ih=>
  intro hx
  by_cases hl:Least r x
  ·exact⟨x,Nat.le_refl _,h.refl hx,hl⟩
  ·unfold Least at hl
   have:∃ y,y<x∧r y x:=by
    apply Classical.byContradiction
    intro hn
    exact hl fun y hy hr=>hn ⟨y,hy,hr⟩
   obtain⟨y,hy,hr⟩:=this
   obtain⟨l,h1,h2,h3⟩:=ih y hy (by omega)
   exact⟨l,by omega,h.trans h2 hr,h3⟩
theorem Per.least_one {n:Nat} {r:Nat→Nat→Prop} (h:Per n r) {x y:Nat} (hx:Least r x) (hy:Least r y) (e:r x y):x=y:=by
 rcases Nat.lt_trichotomy x y with h1|h1|h1
 ·exact absurd e (hy x h1)
 ·exact h1
 ·exact absurd (h.symm e) (hx y h1)
theorem Per.mrg {n:Nat} {r:Nat→Nat→Prop} (h:Per n r) {a b:Nat} (ha:a<n) (hb:b<n):Per n (mrg r a b):=by
 refine⟨fun hx=>Or.inl (h.refl hx),?_,?_,?_⟩
 ·rintro x y (h1|⟨h1,h2⟩|⟨h1,h2⟩)
  ·exact Or.inl (h.symm h1)
  ·exact Or.inr (Or.inr ⟨h.symm h2,h.symm h1⟩)
  ·exact Or.inr (Or.inl ⟨h.symm h2,h.symm h1⟩)
 ·rintro x y z (h1|⟨h1,h2⟩|⟨h1,h2⟩) (k1|⟨k1,k2⟩|⟨k1,k2⟩)
  ·exact Or.inl (h.trans h1 k1)
  ·exact Or.inr (Or.inl ⟨h.trans h1 k1,k2⟩)
  ·exact Or.inr (Or.inr ⟨h.trans h1 k1,k2⟩)
  ·exact Or.inr (Or.inl ⟨h1,h.trans h2 k1⟩)
  ·exact Or.inr (Or.inl ⟨h1,k2⟩)
  ·exact Or.inl (h.trans h1 k2)
  ·exact Or.inr (Or.inr ⟨h1,h.trans h2 k1⟩)
  ·exact Or.inl (h.trans h1 k2)
  ·exact Or.inr (Or.inr ⟨h1,k2⟩)
 ·rintro x y (h1|⟨h1,h2⟩|⟨h1,h2⟩)
  ·exact h.dom h1
  ·exact h.dom h1
  ·exact h.dom h1
theorem mrg_swap {r:Nat→Nat→Prop} {a b x y:Nat}:mrg r a b x y↔mrg r b a x y:=by unfold mrg;exact⟨fun h=>by rcases h with h|h|h <;> simp[h],fun h=>by rcases h with h|h|h <;> simp[h]⟩
theorem Per.mrg_same {n:Nat} {r:Nat→Nat→Prop} (h:Per n r) {a b:Nat} (hab:r a b) {x y:Nat}:Go.Proofs.YtgphnkkdmlohlaaGreatDoor.mrg r a b x y↔r x y:=by
 refine⟨?_,Or.inl⟩
 rintro (h1|⟨h1,h2⟩|⟨h1,h2⟩)
 ·exact h1
 ·exact h.trans h1 (h.trans hab h2)
 ·exact h.trans h1 (h.trans (h.symm hab) h2)
theorem cls_congr {r q:Nat→Nat→Prop} {P:Nat→Prop} {n:Nat} (h:∀ x y,x<n→y<n→(r x y↔q x y)):cls r P n=cls q P n:=by
 refine tally_congr fun k hk=>and_congr Iff.rfl ?_
 unfold Least
 exact⟨fun h' y hy hq=>h' y hy ((h y k (by omega) hk).2 hq),fun h' y hy hq=>h' y hy ((h y k (by omega) hk).1 hq)⟩
theorem cls_mrg_lt {n:Nat} {r:Nat→Nat→Prop} (h:Per n r) {P:Nat→Prop} (hP:∀ x y,P x→r x y→P y) {a b la lb:Nat} (hb:b<n) (hla:r la a) (hlb:r lb b) (h1:Least r la) (h2:Least r lb) (hlt:la<lb) (pb:P b):
  cls r P n=cls (mrg r a b) P n+1:=by
 unfold cls
 rw[tally_but (a:=lb) (h.dom hlb) ⟨hP _ _ pb (h.symm hlb),h2⟩]
 refine congrArg (·+1) (tally_congr fun x hx=>⟨fun ⟨⟨p,l⟩,ne⟩=>⟨p,?_⟩,fun ⟨p,l⟩=>⟨⟨p,fun y hy hr=>l y hy (Or.inl hr)⟩,fun e=>?_⟩⟩)
 ·rintro y hy (k1|⟨k1,k2⟩|⟨k1,k2⟩)
  ·exact l y hy k1
  ·exact ne (h.least_one l h2 (h.trans (h.symm k2) (h.symm hlb)))
  ·have e:=h.least_one l h1 (h.trans (h.symm k2) (h.symm hla))
   have:¬ y<lb:=fun hy'=>h2 y hy' (h.trans k1 (h.symm hlb))
   omega
 ·subst e
  exact l la hlt (Or.inr (Or.inl ⟨hla,h.symm hlb⟩))
theorem cls_mrg {n:Nat} {r:Nat→Nat→Prop} (h:Per n r) {P:Nat→Prop} (hP:∀ x y,P x→r x y→P y) {a b:Nat} (ha:a<n) (hb:b<n) (hab:¬ r a b) (pa:P a) (pb:P b):
  cls r P n=cls (mrg r a b) P n+1:=by
 obtain⟨la,_,hla,h1⟩:=h.least a ha
 obtain⟨lb,_,hlb,h2⟩:=h.least b hb
 rcases Nat.lt_trichotomy la lb with hl|hl|hl
 ·exact cls_mrg_lt h hP hb hla hlb h1 h2 hl pb
 ·subst hl
  exact absurd (h.trans (h.symm hla) hlb) hab
 ·rw[cls_mrg_lt h hP ha hlb hla h2 h1 hl pa,cls_congr fun x y _ _=>mrg_swap]
theorem cls_mrg_out {n:Nat} {r:Nat→Nat→Prop} (h:Per n r) {P:Nat→Prop} (hP:∀ x y,P x→r x y→P y) {a b:Nat} (pa:¬ P a) (pb:¬ P b):
  cls r P n=cls (mrg r a b) P n:=by
 refine tally_congr fun x hx=>⟨fun ⟨p,l⟩=>⟨p,?_⟩,fun ⟨p,l⟩=>⟨p,fun y hy hr=>l y hy (Or.inl hr)⟩⟩
 rintro y hy (k1|⟨k1,k2⟩|⟨k1,k2⟩)
 ·exact l y hy k1
 ·exact pb (hP _ _ p (h.symm k2))
 ·exact pa (hP _ _ p (h.symm k2))
def itf (f:Nat→Nat):Nat→Nat→Nat
 | 0,x=>x
 | k+1,x=>itf f k (f x)
structure Pm (n:Nat) (f:Nat→Nat):Prop where
 lt:∀ {x},x<n→f x<n
 inj:∀ {x y},x<n→y<n→f x=f y→x=y
def cyc (n:Nat) (f:Nat→Nat) (x y:Nat):Prop:=x<n∧y<n∧∃ j,itf f j x=y
def swp (f:Nat→Nat) (a b x:Nat):Nat:=if x=a then f b else if x=b then f a else f x
theorem itf_succ (f:Nat→Nat):∀ (k x:Nat),itf f (k+1) x=f (itf f k x)
 | 0,_=>rfl
 | k+1,x=>itf_succ f k (f x)
theorem itf_add (f:Nat→Nat) (k:Nat):∀ (j x:Nat),itf f (k+j) x=itf f k (itf f j x)
 | 0,_=>rfl
 | j+1,x=>itf_add f k j (f x)
theorem itf_at (s:List Nat):∀ (k x:Nat),itf (at' s) k x=it s k x
 | 0,_=>rfl
 | k+1,x=>itf_at s k (at' s x)
theorem Pm.it {n:Nat} {f:Nat→Nat} (h:Pm n f) {x:Nat} (hx:x<n):∀ k,itf f k x<n
 | 0=>hx
 | k+1=>by rw[itf_succ];exact h.lt (h.it hx k)
theorem Pm.itInj {n:Nat} {f:Nat→Nat} (h:Pm n f) {x y:Nat} (hx:x<n) (hy:y<n):∀ k,itf f k x=itf f k y→x=y
 | 0,e=>e
 | k+1,e=>by
  rw[itf_succ,itf_succ] at e
  exact h.itInj hx hy k (h.inj (h.it hx k) (h.it hy k) e)
theorem Pm.back {n:Nat} {f:Nat→Nat} (h:Pm n f) {x:Nat} (hx:x<n):∃ d,0<d∧itf f d x=x:=by
 obtain⟨a,b,hab,hb,e⟩:=pigeon n (fun k=>itf f k x) (fun k _=>h.it hx k)
 refine⟨b-a,by omega,(h.itInj hx (h.it hx _) a ?_).symm⟩
 rw[←itf_add,show a+(b-a)=b by omega]
 exact e
theorem itf_round {f:Nat→Nat} {d x:Nat} (h:itf f d x=x):∀ k,itf f (k*d) x=x
 | 0=>by rw[Nat.zero_mul];rfl
 | k+1=>by rw[Nat.succ_mul,itf_add,h];exact itf_round h k
theorem Pm.per {n:Nat} {f:Nat→Nat} (h:Pm n f):Per n (cyc n f):=by
 refine⟨fun hx=>⟨hx,hx,0,rfl⟩,?_,?_,fun hr=>hr.1⟩
 ·rintro x y ⟨hx,hy,j,e⟩
  obtain⟨d,hd,ed⟩:=h.back hx
  refine⟨hy,hx,j*d-j,?_⟩
  rw[←e,←itf_add,show j*d-j+j=j*d from by have:=Nat.le_mul_of_pos_right j hd;omega]
  exact itf_round ed j
 ·rintro x y z ⟨hx,hy,j,e⟩ ⟨_,hz,k,e'⟩
  exact⟨hx,hz,k+j,by rw[itf_add,e,e']⟩
theorem Pm.step {n:Nat} {f:Nat→Nat} (h:Pm n f) {x:Nat} (hx:x<n):cyc n f x (f x):=⟨hx,h.lt hx,1,rfl⟩
theorem Pm.cyc_sub {n:Nat} {f:Nat→Nat} (h:Pm n f) {r:Nat→Nat→Prop} (hr:Per n r) (hs:∀ x,x<n→r x (f x)) {x y:Nat} (hc:cyc n f x y):r x y:=by
 obtain⟨hx,hy,j,rfl⟩:=hc
 clear hy
 induction j with
 | zero=>exact hr.refl hx
 | succ j ih=>rw[itf_succ];exact hr.trans ih (hs _ (h.it hx j))
theorem least_nat {p:Nat→Prop}:∀ (m:Nat),p m→∃ k,k≤m∧p k∧∀ j,j<k→¬ p j:=by
 intro m
 induction m using Nat.strongRecOn with
 | ind m ih=>
  intro hm
  by_cases h:∃ j,j<m∧p j
  ·obtain⟨j,hj,hp⟩:=h
   obtain⟨k,h1,h2,h3⟩:=ih j hj hp
   exact⟨k,by omega,h2,h3⟩
  ·exact⟨m,Nat.le_refl _,hm,fun j hj hp=>h ⟨j,hj,hp⟩⟩
theorem swp_a (f:Nat→Nat) (a b:Nat):swp f a b a=f b:=by simp[swp]
theorem swp_b {a b:Nat} (f:Nat→Nat) (h:a≠b):swp f a b b=f a:=by simp[swp,h.symm]
theorem swp_o {a b x:Nat} (f:Nat→Nat) (h:x≠a) (h':x≠b):swp f a b x=f x:=by simp[swp,h,h']
theorem Pm.swap {n:Nat} {f:Nat→Nat} (h:Pm n f) {a b:Nat} (ha:a<n) (hb:b<n) (hab:a≠b):Pm n (swp f a b):=by
 have key:∀ x,∃ y,swp f a b x=f y∧y=if x=a then b else if x=b then a else x:=fun x=>by
  refine⟨_,?_,rfl⟩
  unfold swp
  split
  ·rfl
  ·split <;> rfl
 refine⟨fun {x} hx=>?_,fun {x y} hx hy e=>?_⟩
 ·obtain⟨y,e,hy⟩:=key x
  rw[e]
  refine h.lt ?_
  rw[hy]
  split
  ·exact hb
  ·split
   ·exact ha
   ·exact hx
 ·obtain⟨u,e1,hu⟩:=key x
  obtain⟨v,e2,hv⟩:=key y
  rw[e1,e2] at e
  have hul:u<n:=by rw[hu];split;exact hb;split;exact ha;exact hx
  have hvl:v<n:=by rw[hv];split;exact hb;split;exact ha;exact hy
  have:=h.inj hul hvl e
  rw[hu,hv] at this
  split at this <;> split at this <;> (try split at this) <;> (try split at this) <;> omega
theorem Pm.swp_join {n:Nat} {f:Nat→Nat} (h:Pm n f) {a b:Nat} (ha:a<n) (hb:b<n) (hab:a≠b) (hn:¬ cyc n f a b):cyc n (swp f a b) a b:=by
 obtain⟨d,hd,ed⟩:=h.back hb
 obtain⟨m,_,⟨hm,em⟩,hmin⟩:=least_nat (p:=fun m=>0<m∧itf f m b=b) d ⟨hd,ed⟩
 have key:∀ j,0<j→j≤m→itf (swp f a b) j a=itf f j b:=by
  intro j
  induction j with
  | zero=>intro h0;omega
  | succ j ih=>
   intro _ hj
   by_cases h0:j=0
   ·subst h0
    show swp f a b a=f b
    exact swp_a f a b
   ·rw[itf_succ,ih (by omega) (by omega),itf_succ,swp_o]
    ·intro e
     exact hn (h.per.symm ⟨hb,ha,j,e⟩)
    ·intro e
     exact hmin j (by omega) ⟨by omega,e⟩
 exact⟨ha,hb,m,by rw[key m hm (Nat.le_refl _),em]⟩
theorem Pm.swp_part {n:Nat} {f:Nat→Nat} (h:Pm n f) {a b:Nat} (ha:a<n) (hb:b<n) (hab:a≠b) (hn:cyc n f a b):¬ cyc n (swp f a b) a b:=by
 intro hg
 obtain⟨_,_,d,ed⟩:=hn
 obtain⟨m,_,em,hmin⟩:=least_nat (p:=fun m=>itf f m a=b) d ed
 have hm:0<m:=by
  rcases Nat.eq_zero_or_pos m with h0|h0
  ·subst h0;exact absurd em hab
  ·exact h0
 have hne:∀ j,0<j→j≤m→itf f j a≠a:=fun j h0 hj e=>by
  refine hmin (m-j) (by omega) ?_
  rw[show m=m-j+j by omega,itf_add,e] at em
  exact em
 have hstep:∀ z,(∃ j,0<j∧j≤m∧itf f j a=z)→∃ j,0<j∧j≤m∧itf f j a=swp f a b z:=by
  rintro z ⟨j,h0,hj,rfl⟩
  by_cases e:j=m
  ·subst e
   exact⟨1,by omega,by omega,by rw[em,swp_b f hab];rfl⟩
  ·exact⟨j+1,by omega,by omega,by rw[swp_o f (hne j h0 hj) (hmin j (by omega)),itf_succ]⟩
 obtain⟨_,_,k,ek⟩:=(h.swap ha hb hab).per.symm hg
 have hall:∀ k,∃ j,0<j∧j≤m∧itf f j a=itf (swp f a b) k b:=by
  intro k
  induction k with
  | zero=>exact⟨m,hm,Nat.le_refl _,em⟩
  | succ k ih=>rw[itf_succ];exact hstep _ ih
 obtain⟨j,h0,hj,e⟩:=hall k
 exact hne j h0 hj (e.trans ek)
theorem Pm.swp_mrg {n:Nat} {f:Nat→Nat} (h:Pm n f) {a b:Nat} (ha:a<n) (hb:b<n) (hab:a≠b) (hn:¬ cyc n f a b) {x y:Nat}:cyc n (swp f a b) x y↔mrg (cyc n f) a b x y:=by
 have hg:=h.swap ha hb hab
 have hj:=h.swp_join ha hb hab hn
 refine⟨fun hc=>hg.cyc_sub (h.per.mrg ha hb) (fun z hz=>?_) hc,fun hm=>?_⟩
 ·by_cases e1:z=a
  ·subst e1
   rw[swp_a]
   exact Or.inr (Or.inl ⟨h.per.refl hz,h.step hb⟩)
  ·by_cases e2:z=b
   ·subst e2
    rw[swp_b f hab]
    exact Or.inr (Or.inr ⟨h.per.refl hz,h.step ha⟩)
   ·rw[swp_o f e1 e2]
    exact Or.inl (h.step hz)
 ·have hs:∀ z,z<n→cyc n (swp f a b) z (f z):=fun z hz=>by
   by_cases e1:z=a
   ·subst e1
    have:=hg.step hb
    rw[swp_b f hab] at this
    exact hg.per.trans hj this
   ·by_cases e2:z=b
    ·subst e2
     have:=hg.step ha
     rw[swp_a] at this
     exact hg.per.trans (hg.per.symm hj) this
    ·have:=hg.step hz
     rwa [swp_o f e1 e2] at this
  have sub:∀ {u v},cyc n f u v→cyc n (swp f a b) u v:=fun hc=>h.cyc_sub hg.per hs hc
  rcases hm with k|⟨k1,k2⟩|⟨k1,k2⟩
  ·exact sub k
  ·exact hg.per.trans (sub k1) (hg.per.trans hj (sub k2))
  ·exact hg.per.trans (sub k1) (hg.per.trans (hg.per.symm hj) (sub k2))
theorem cyc_congr {n:Nat} {f g:Nat→Nat} (hf:Pm n f) (h:∀ x,x<n→f x=g x) {x y:Nat}:cyc n f x y↔cyc n g x y:=by
 have key:∀ {x},x<n→∀ j,itf f j x=itf g j x:=fun {x} hx j=>by
  induction j with
  | zero=>rfl
  | succ j ih=>rw[itf_succ,itf_succ,←ih,h _ (hf.it hx j)]
 unfold cyc
 constructor
 ·rintro⟨hx,hy,j,e⟩;exact⟨hx,hy,j,by rw[←key hx];exact e⟩
 ·rintro⟨hx,hy,j,e⟩;exact⟨hx,hy,j,by rw[key hx];exact e⟩
theorem swp_swp {a b:Nat} (f:Nat→Nat) (hab:a≠b) (x:Nat):swp (swp f a b) a b x=f x:=by
 by_cases e1:x=a
 ·subst e1;rw[swp_a,swp_b f hab]
 ·by_cases e2:x=b
  ·subst e2;rw[swp_b _ hab,swp_a]
  ·rw[swp_o _ e1 e2,swp_o _ e1 e2]
theorem Pm.swp_cls {n:Nat} {f:Nat→Nat} (h:Pm n f) {P:Nat→Prop} (hP:∀ x,x<n→(P (f x)↔P x)) {a b:Nat} (ha:a<n) (hb:b<n) (hab:a≠b) (pa:P a) (pb:P b):
  (¬ cyc n f a b∧cls (cyc n f) P n=cls (cyc n (swp f a b)) P n+1)∨(cyc n f a b∧cls (cyc n f) P n+1=cls (cyc n (swp f a b)) P n):=by
 have closed:∀ {f:Nat→Nat},Pm n f→(∀ x,x<n→(P (f x)↔P x))→∀ x y,P x→cyc n f x y→P y:=fun {f} hf hP x y hx hc=>by
  obtain⟨hx',hy,j,rfl⟩:=hc
  clear hy
  induction j with
  | zero=>exact hx
  | succ j ih=>rw[itf_succ];exact (hP _ (hf.it hx' j)).2 ih
 have hg:=h.swap ha hb hab
 have hPg:∀ x,x<n→(P (swp f a b x)↔P x):=fun x hx=>by
  by_cases e1:x=a
  ·subst e1;rw[swp_a,hP b hb];exact⟨fun _=>pa,fun _=>pb⟩
  ·by_cases e2:x=b
   ·subst e2;rw[swp_b f hab,hP a ha];exact⟨fun _=>pb,fun _=>pa⟩
   ·rw[swp_o f e1 e2];exact hP x hx
 by_cases hc:cyc n f a b
 ·refine Or.inr ⟨hc,?_⟩
  have hn:=h.swp_part ha hb hab hc
  rw[cls_mrg hg.per (closed hg hPg) ha hb hn pa pb]
  refine congrArg (·+1) (cls_congr fun x y _ _=>?_)
  rw[←hg.swp_mrg ha hb hab hn]
  exact cyc_congr h fun z _=>(swp_swp f hab z).symm
 ·refine Or.inl ⟨hc,?_⟩
  rw[cls_mrg h.per (closed h hP) ha hb hc pa pb]
  exact congrArg (·+1) (cls_congr fun x y _ _=>(h.swp_mrg ha hb hab hc).symm)
theorem Pm.swp_cls_out {n:Nat} {f:Nat→Nat} (h:Pm n f) {P:Nat→Prop} (hP:∀ x,x<n→(P (f x)↔P x)) {a b:Nat} (ha:a<n) (hb:b<n) (hab:a≠b) (pa:¬ P a) (pb:¬ P b):
  cls (cyc n f) P n=cls (cyc n (swp f a b)) P n:=by
 have closed:∀ {f:Nat→Nat},Pm n f→(∀ x,x<n→(P (f x)↔P x))→∀ x y,P x→cyc n f x y→P y:=fun {f} hf hP x y hx hc=>by
  obtain⟨hx',hy,j,rfl⟩:=hc
  clear hy
  induction j with
  | zero=>exact hx
  | succ j ih=>rw[itf_succ];exact (hP _ (hf.it hx' j)).2 ih
 have hg:=h.swap ha hb hab
 have hPg:∀ x,x<n→(P (swp f a b x)↔P x):=fun x hx=>by
  by_cases e1:x=a
  ·subst e1;rw[swp_a,hP b hb];exact⟨fun h=>absurd h pb,fun h=>absurd h pa⟩
  ·by_cases e2:x=b
   ·subst e2;rw[swp_b f hab,hP a ha];exact⟨fun h=>absurd h pa,fun h=>absurd h pb⟩
   ·rw[swp_o f e1 e2];exact hP x hx
 by_cases hc:cyc n f a b
 ·have hn:=h.swp_part ha hb hab hc
  rw[cls_mrg_out hg.per (closed hg hPg) pa pb]
  refine cls_congr fun x y _ _=>?_
  rw[←hg.swp_mrg ha hb hab hn]
  exact cyc_congr h fun z _=>(swp_swp f hab z).symm
 ·rw[cls_mrg_out h.per (closed h hP) pa pb]
  exact cls_congr fun x y _ _=>(h.swp_mrg ha hb hab hc).symm
end
section
set_option linter.unusedVariables false
theorem IsPerm.pm {s:List Nat} (h:IsPerm s):Pm s.length (at' s):=⟨fun hx=>h.lt hx,fun hx hy e=>h.inj hx hy e⟩
theorem Pm.congr {n:Nat} {f g:Nat→Nat} (h:Pm n f) (e:∀ x,x<n→f x=g x):Pm n g:=
 ⟨fun {x} hx=>by rw[←e x hx];exact h.lt hx,fun {x y} hx hy h'=>h.inj hx hy (by rw[e x hx,e y hy];exact h')⟩
def fk (s:List Nat) (k x:Nat):Nat:=at' s (if x<2*k then x ^^^ 1 else x)
theorem fk_zero (s:List Nat) (x:Nat):fk s 0 x=at' s x:=by simp[fk]
theorem xor_even (k:Nat):(2*k) ^^^ 1=2*k+1:=by rw[xor_one];simp
theorem xor_odd (k:Nat):(2*k+1) ^^^ 1=2*k:=by rw[xor_one,if_neg (by omega)];omega
theorem xor_one_ne (k:Nat):k ^^^ 1≠k:=by rw[xor_one];split <;> omega
theorem xor_one_div (k:Nat):(k ^^^ 1) / 2=k / 2:=by rw[xor_one];split <;> omega
theorem fk_succ (s:List Nat) (k x:Nat):fk s (k+1) x=swp (fk s k) (2*k) (2*k+1) x:=by
 by_cases e1:x=2*k
 ·subst e1
  rw[swp_a]
  unfold fk
  rw[if_pos (by omega),if_neg (by omega),xor_even]
 ·by_cases e2:x=2*k+1
  ·subst e2
   rw[swp_b _ (by omega)]
   unfold fk
   rw[if_pos (by omega),if_neg (by omega),xor_odd]
  ·rw[swp_o _ e1 e2]
   unfold fk
   by_cases h:x<2*k
   ·rw[if_pos h,if_pos (by omega)]
   ·rw[if_neg h,if_neg (by omega)]
theorem fk_pm {s:List Nat} (h:IsPerm s):∀ {k:Nat},2*k≤s.length→Pm s.length (fk s k)
 | 0,_=>h.pm.congr fun x _=>(fk_zero s x).symm
 | k+1,hk=>((fk_pm h (k:=k) (by omega)).swap (a:=2*k) (b:=2*k+1) (by omega) (by omega) (by omega)).congr fun x _=>(fk_succ s k x).symm
theorem fk_all {s:List Nat} {x:Nat} (h:s.length % 2=0) (hx:x<s.length):fk s (s.length / 2) x=at' (phiL s) x:=by
 rw[phiL_at hx]
 unfold fk
 rw[if_pos (by omega)]
def st (s:List Nat):Nat→Nat→Nat→Prop
 | 0=>cyc s.length (at' s)
 | k+1=>mrg (st s k) (2*k) (2*k+1)
def Con (s:List Nat):Nat→Nat→Prop:=st s (s.length / 2)
theorem st_per {s:List Nat} (h:IsPerm s):∀ {k:Nat},2*k≤s.length→Per s.length (st s k)
 | 0,_=>h.pm.per
 | k+1,hk=>(st_per h (k:=k) (by omega)).mrg (by omega) (by omega)
theorem st_mono {s:List Nat} {k x y:Nat} (h:st s k x y):∀ j,st s (k+j) x y
 | 0=>h
 | j+1=>Or.inl (st_mono h j)
theorem st_le {s:List Nat} {k l x y:Nat} (h:st s k x y) (hk:k≤l):st s l x y:=by
 rw[show l=k+(l-k) by omega];exact st_mono h _
theorem st_edge {s:List Nat} (h:IsPerm s) {k x:Nat} (hk:2*k≤s.length) (hx:x<2*k):st s k x (x ^^^ 1):=by
 have key:st s (x / 2+1) (2*(x / 2)) (2*(x / 2)+1):=by
  have hp:=st_per h (k:=x / 2) (by omega)
  exact Or.inr (Or.inl ⟨hp.refl (by omega),hp.refl (by omega)⟩)
 have key:=st_le key (show x / 2+1≤k by omega)
 by_cases e:x % 2=0
 ·have e1:x=2*(x / 2):=by omega
  rw[←e1] at key
  rw[xor_one,if_pos e]
  exact key
 ·have e1:2*(x / 2)+1=x:=by omega
  rw[xor_one,if_neg e,←show 2*(x / 2)=x-1 by omega]
  rw[e1] at key
  exact (st_per h hk).symm key
theorem st_s {s:List Nat} (h:IsPerm s) (k:Nat) {x:Nat} (hx:x<s.length):st s k x (at' s x):=by
 have:st s 0 x (at' s x):=h.pm.step hx
 exact st_le this (Nat.zero_le _)
theorem st_fk {s:List Nat} (h:IsPerm s) (he:s.length % 2=0) {k:Nat} (hk:2*k≤s.length) {x y:Nat} (hc:cyc s.length (fk s k) x y):st s k x y:=by
 refine (fk_pm h hk).cyc_sub (st_per h hk) (fun z hz=>?_) hc
 unfold fk
 split
 ·rename_i hz'
  exact (st_per h hk).trans (st_edge h hk hz') (st_s h k (xor_one_lt he hz))
 ·exact st_s h k hz
theorem Con.per {s:List Nat} (h:IsPerm s):Per s.length (Con s):=st_per h (by omega)
theorem Con.step {s:List Nat} (h:IsPerm s) {x:Nat} (hx:x<s.length):Con s x (at' s x):=st_s h _ hx
theorem Con.mate {s:List Nat} (h:IsPerm s) (he:s.length % 2=0) {x:Nat} (hx:x<s.length):Con s x (x ^^^ 1):=st_edge h (by omega) (by omega)
theorem st_sub {s:List Nat} (h:IsPerm s) {r:Nat→Nat→Prop} (hr:Per s.length r) (h1:∀ x,x<s.length→r x (at' s x)) (h2:∀ x,x<s.length→r x (x ^^^ 1)):
  ∀ {k:Nat},2*k≤s.length→∀ {x y},st s k x y→r x y
 | 0,_,x,y,hc=>h.pm.cyc_sub hr h1 hc
 | k+1,hk,x,y,hc=>by
  have e:r (2*k) (2*k+1):=by have:=h2 (2*k) (by omega);rwa [xor_even] at this
  rcases hc with k1|⟨k1,k2⟩|⟨k1,k2⟩
  ·exact st_sub h hr h1 h2 (by omega) k1
  ·exact hr.trans (st_sub h hr h1 h2 (by omega) k1) (hr.trans e (st_sub h hr h1 h2 (by omega) k2))
  ·exact hr.trans (st_sub h hr h1 h2 (by omega) k1) (hr.trans (hr.symm e) (st_sub h hr h1 h2 (by omega) k2))
theorem Con.sub {s:List Nat} (h:IsPerm s) {r:Nat→Nat→Prop} (hr:Per s.length r) (h1:∀ x,x<s.length→r x (at' s x)) (h2:∀ x,x<s.length→r x (x ^^^ 1)) {x y:Nat} (hc:Con s x y):r x y:=
 st_sub h hr h1 h2 (by omega) hc
structure Closed (s:List Nat) (P:Nat→Prop):Prop where
 turn:∀ x,x<s.length→(P (at' s x)↔P x)
 mate:∀ x,x<s.length→(P (x ^^^ 1)↔P x)
theorem Closed.st {s:List Nat} (h:IsPerm s) (he:s.length % 2=0) {P:Nat→Prop} (hP:Closed s P) {k:Nat} (hk:2*k≤s.length) {x y:Nat} (hx:P x) (hc:Go.Proofs.YtgphnkkdmlohlaaGreatDoor.st s k x y):P y:=by
 have:∀ x y,(x<s.length∧y<s.length∧(P x↔P y))→(P x→P y):=fun _ _ h=>h.2.2.1
 exact this x y (st_sub h (r:=fun x y=>x<s.length∧y<s.length∧(P x↔P y)) ⟨fun hx=>⟨hx,hx,Iff.rfl⟩,fun h=>⟨h.2.1,h.1,h.2.2.symm⟩,fun h k=>⟨h.1,k.2.1,h.2.2.trans k.2.2⟩,fun h=>h.1⟩ (fun z hz=>⟨hz,h.lt hz,(hP.turn z hz).symm⟩) (fun z hz=>⟨hz,xor_one_lt he hz,(hP.mate z hz).symm⟩) hk hc) hx
theorem Closed.fk {s:List Nat} (h:IsPerm s) (he:s.length % 2=0) {P:Nat→Prop} (hP:Closed s P) (k:Nat) {x:Nat} (hx:x<s.length):P (Go.Proofs.YtgphnkkdmlohlaaGreatDoor.fk s k x)↔P x:=by
 unfold Go.Proofs.YtgphnkkdmlohlaaGreatDoor.fk
 split
 ·rw[hP.turn _ (xor_one_lt he hx),hP.mate _ hx]
 ·exact hP.turn _ hx
theorem euler_go {s:List Nat} (h:IsPerm s) (he:s.length % 2=0) {P:Nat→Prop} (hP:Closed s P):∀ {k:Nat},2*k≤s.length →
  ∃ t,cls (cyc s.length (at' s)) P s.length+cls (cyc s.length (fk s k)) P s.length+2*t=tally (fun e=>P (2*e)) k+2*cls (st s k) P s.length
 | 0,_=>⟨0,by
  rw[tally_zero',cls_congr (r:=cyc s.length (fk s 0)) (q:=cyc s.length (at' s)) fun x y _ _=>cyc_congr (fk_pm h (by omega)) fun z _=>fk_zero s z]
  show _=0+2*cls (cyc s.length (at' s)) P s.length
  omega⟩
 | k+1,hk=>by
  obtain⟨t,ih⟩:=euler_go h he hP (k:=k) (by omega)
  have hf:=fk_pm h (k:=k) (by omega)
  have e1:cls (cyc s.length (fk s (k+1))) P s.length=cls (cyc s.length (swp (fk s k) (2*k) (2*k+1))) P s.length:=cls_congr fun x y _ _=>cyc_congr (fk_pm h hk) fun z _=>fk_succ s k z
  have hmate:P (2*k+1)↔P (2*k):=by have:=hP.mate (2*k) (by omega);rwa [xor_even] at this
  rw[tally_succ]
  by_cases hp:P (2*k)
  ·rw[ind_yes hp]
   have hp':=hmate.2 hp
   by_cases hc:st s k (2*k) (2*k+1)
   ·have e2:cls (st s (k+1)) P s.length=cls (st s k) P s.length:=cls_congr fun x y _ _=>(st_per h (by omega)).mrg_same hc
    rcases hf.swp_cls (P:=P) (fun x hx=>hP.fk h he k hx) (a:=2*k) (b:=2*k+1) (by omega) (by omega) (by omega) hp hp' with ⟨_,e3⟩|⟨_,e3⟩
    ·exact⟨t+1,by omega⟩
    ·exact⟨t,by omega⟩
   ·have e2:=cls_mrg (st_per h (k:=k) (by omega)) (P:=P) (fun x y hx hc=>hP.st h he (by omega) hx hc) (a:=2*k) (b:=2*k+1) (by omega) (by omega) hc hp hp'
    have e2:cls (st s k) P s.length=cls (st s (k+1)) P s.length+1:=e2
    rcases hf.swp_cls (P:=P) (fun x hx=>hP.fk h he k hx) (a:=2*k) (b:=2*k+1) (by omega) (by omega) (by omega) hp hp' with ⟨_,e3⟩|⟨h3,e3⟩
    ·exact⟨t,by omega⟩
    ·exact absurd (st_fk h he (by omega) h3) hc
  ·rw[ind_no hp]
   have hp':¬ P (2*k+1):=fun h=>hp (hmate.1 h)
   have e2:cls (st s k) P s.length=cls (st s (k+1)) P s.length:=cls_mrg_out (st_per h (k:=k) (by omega)) (P:=P) (fun x y hx hc=>hP.st h he (by omega) hx hc) hp hp'
   have e3:=hf.swp_cls_out (P:=P) (fun x hx=>hP.fk h he k hx) (a:=2*k) (b:=2*k+1) (by omega) (by omega) (by omega) hp hp'
   exact⟨t,by omega⟩
end
section
set_option linter.unusedVariables false
def conF (n:Nat) (f:Nat→Nat) (x y:Nat):Prop:=x<n∧y<n∧∀ r:Nat→Nat→Prop,Per n r→(∀ z,z<n→r z (f z))→(∀ z,z<n→r z (z ^^^ 1))→r x y
theorem conF_per (n:Nat) (f:Nat→Nat):Per n (conF n f):=
 ⟨fun hx=>⟨hx,hx,fun r hr _ _=>hr.refl hx⟩,fun h=>⟨h.2.1,h.1,fun r hr h1 h2=>hr.symm (h.2.2 r hr h1 h2)⟩,fun h k=>⟨h.1,k.2.1,fun r hr h1 h2=>hr.trans (h.2.2 r hr h1 h2) (k.2.2 r hr h1 h2)⟩,fun h=>h.1⟩
theorem conF_step {n:Nat} {f:Nat→Nat} (h:Pm n f) {x:Nat} (hx:x<n):conF n f x (f x):=⟨hx,h.lt hx,fun r _ h1 _=>h1 x hx⟩
theorem conF_mate {n:Nat} {f:Nat→Nat} (he:n % 2=0) {x:Nat} (hx:x<n):conF n f x (x ^^^ 1):=⟨hx,xor_one_lt he hx,fun r _ _ h2=>h2 x hx⟩
def phiF (f:Nat→Nat) (x:Nat):Nat:=f (x ^^^ 1)
theorem Pm.phi {n:Nat} {f:Nat→Nat} (h:Pm n f) (he:n % 2=0):Pm n (phiF f):=
 ⟨fun hx=>h.lt (xor_one_lt he hx),fun {x y} hx hy e=>by
  have e1:=h.inj (xor_one_lt he hx) (xor_one_lt he hy) e
  rw[←xor_one_one x,e1,xor_one_one]⟩
def Any (_:Nat):Prop:=True
def PlanF (n:Nat) (f:Nat→Nat):Prop:=n / 2+2*cls (conF n f) Any n≤cls (cyc n f) Any n+cls (cyc n (phiF f)) Any n
theorem cls_le {n:Nat} {r q:Nat→Nat→Prop} {P:Nat→Prop} (h:∀ x y,r x y→q x y):cls q P n≤cls r P n:=
 tally_mono fun x _ k=>⟨k.1,fun y hy hr=>k.2 y hy (h y x hr)⟩
theorem phi_swp (f:Nat→Nat) (a b x:Nat):phiF (swp f a b) x=swp (phiF f) (a ^^^ 1) (b ^^^ 1) x:=by
 have e:∀ c:Nat,(x ^^^ 1=c)=(x=c ^^^ 1):=fun c=>propext ⟨fun k=>by rw[←k,xor_one_one],fun k=>by rw[k,xor_one_one]⟩
 unfold phiF swp
 simp only[e,xor_one_one]
theorem PlanF.part {n:Nat} {f:Nat→Nat} (hp:PlanF n f) (h:Pm n f) (he:n % 2=0) {a b:Nat} (hab:a≠b) (hc:cyc n f a b):PlanF n (swp f a b):=by
 have ha:a<n:=hc.1
 have hb:b<n:=hc.2.1
 have hg:=h.swap ha hb hab
 have hphi:=h.phi he
 have hphg:=hg.phi he
 have hab':a ^^^ 1≠b ^^^ 1:=fun e=>hab (by rw[←xor_one_one a,e,xor_one_one])
 have hV:cls (cyc n f) Any n+1=cls (cyc n (swp f a b)) Any n:=by
  rcases h.swp_cls (P:=Any) (fun _ _=>Iff.rfl) ha hb hab trivial trivial with ⟨k,_⟩|⟨_,k⟩
  ·exact absurd hc k
  ·exact k
 have hE:cls (cyc n (phiF (swp f a b))) Any n=cls (cyc n (swp (phiF f) (a ^^^ 1) (b ^^^ 1))) Any n:=cls_congr fun x y _ _=>cyc_congr hphg fun z _=>phi_swp f a b z
 have hsub:∀ x y,conF n f x y→mrg (conF n (swp f a b)) a b x y:=fun x y hxy=>by
  have hper:=(conF_per n (swp f a b)).mrg ha hb
  refine hxy.2.2 _ hper (fun z hz=>?_) (fun z hz=>Or.inl (conF_mate he hz))
  by_cases e1:z=a
  ·rw[e1]
   have k:=conF_step hg hb
   rw[swp_b f hab] at k
   exact Or.inr (Or.inl ⟨(conF_per _ _).refl ha,k⟩)
  ·by_cases e2:z=b
   ·rw[e2]
    have k:=conF_step hg ha
    rw[swp_a] at k
    exact Or.inr (Or.inr ⟨(conF_per _ _).refl hb,k⟩)
   ·have k:=conF_step hg hz
    rw[swp_o f e1 e2] at k
    exact Or.inl k
 have hP:=cls_le (P:=Any) (n:=n) hsub
 have hF:=hphi.swp_cls (P:=Any) (fun _ _=>Iff.rfl) (xor_one_lt he ha) (xor_one_lt he hb) hab' trivial trivial
 unfold PlanF at hp ⊢
 by_cases hr:conF n (swp f a b) a b
 ·have e2:cls (conF n (swp f a b)) Any n=cls (mrg (conF n (swp f a b)) a b) Any n:=cls_congr fun x y _ _=>((conF_per _ _).mrg_same hr).symm
  rcases hF with ⟨_,k⟩|⟨_,k⟩ <;> omega
 ·have e2:=cls_mrg (conF_per n (swp f a b)) (P:=Any) (fun _ _ _ _=>trivial) ha hb hr trivial trivial
  rcases hF with ⟨k0,k⟩|⟨_,k⟩
  ·refine absurd ?_ hr
   have k1:=hphi.swp_join (xor_one_lt he ha) (xor_one_lt he hb) hab' k0
   have k2:=(cyc_congr hphg (fun z _=>phi_swp f a b z)).2 k1
   have k3:conF n (swp f a b) (a ^^^ 1) (b ^^^ 1):=hphg.cyc_sub (conF_per _ _) (fun z hz=>(conF_per _ _).trans (conF_mate he hz) (conF_step hg (xor_one_lt he hz))) k2
   exact (conF_per _ _).trans (conF_mate he ha) ((conF_per _ _).trans k3 ((conF_per _ _).symm (conF_mate he hb)))
  ·omega
theorem Pm.pre {n:Nat} {f:Nat→Nat} (h:Pm n f) {d:Nat} (hd:d<n):∃ a,a<n∧f a=d:=by
 obtain⟨k,hk,e⟩:=h.back hd
 refine⟨itf f (k-1) d,h.it hd _,?_⟩
 rw[←itf_succ f,show k-1+1=k by omega]
 exact e
def NextF (f:Nat→Nat) (R:Nat→Prop) (x y:Nat):Prop:=∃ j,0<j∧itf f j x=y∧∀ i,0<i→i<j→R (itf f i x)
structure PullF (n:Nat) (f:Nat→Nat) (R:Nat→Prop) (g:Nat→Nat):Prop where
 pm:Pm n g
 plan:PlanF n g
 out:∀ x,x<n→R x→g x=x
 stay:∀ x,x<n→¬ R x→¬ R (g x)
 next:∀ x,x<n→¬ R x→NextF f R x (g x)
theorem PlanF.pull {n:Nat} {f:Nat→Nat} (hp:PlanF n f) (h:Pm n f) (he:n % 2=0) (R:Nat→Prop):∀ k,k≤n→∃ g,PullF n f (fun x=>x<k∧R x) g
 | 0,_=>⟨f,h,hp,fun x _ k=>absurd k.1 (by omega),fun x _ _ k=>absurd k.1 (by omega),fun x _ _=>⟨1,by omega,rfl,fun i _ _=>by omega⟩⟩
 | k+1,hk=>by
  obtain⟨g,h1,h2,h3,h4,h5⟩:=hp.pull h he R k (by omega)
  rcases Classical.em (¬ R k) with hR|hR
  ·have e:(fun x=>x<k+1∧R x)=(fun x=>x<k∧R x):=funext fun x=>propext ⟨fun ⟨a,b⟩=>⟨by
    have:x≠k:=fun e=>hR (e ▸ b)
    omega,b⟩,fun ⟨a,b⟩=>⟨by omega,b⟩⟩
   rw[e]
   exact⟨g,h1,h2,h3,h4,h5⟩
  ·have hR:R k:=Classical.not_not.1 hR
   have hkn:k<n:=by omega
   have hkk:¬ (k<k∧R k):=fun k=>by omega
   have hsp:∀ x,(x<k+1∧R x)↔((x<k∧R x)∨x=k):=fun x=>⟨fun ⟨a,b⟩=>by
    by_cases e:x=k
    ·exact Or.inr e
    ·exact Or.inl ⟨by omega,b⟩,fun q=>by
    rcases q with q|rfl
    ·exact⟨by omega,q.2⟩
    ·exact⟨by omega,hR⟩⟩
   by_cases hfix:g k=k
   ·refine⟨g,h1,h2,fun x hx hr=>?_,fun x hx hr hr'=>?_,fun x hx hr=>?_⟩
    ·rcases (hsp x).1 hr with q|rfl
     ·exact h3 x hx q
     ·exact hfix
    ·rcases (hsp _).1 hr' with q|q
     ·exact h4 x hx (fun q'=>hr ((hsp x).2 (Or.inl q'))) q
     ·have:=h1.inj hx hkn (q.trans hfix.symm)
      exact hr ((hsp x).2 (Or.inr this))
    ·obtain⟨j,j1,j2,j3⟩:=h5 x hx (fun q'=>hr ((hsp x).2 (Or.inl q')))
     exact⟨j,j1,j2,fun i a b=>(hsp _).2 (Or.inl (j3 i a b))⟩
   ·obtain⟨a,ha,ea⟩:=h1.pre hkn
    have hak:a≠k:=fun e=>hfix (by rw[←e];rw[ea];exact e.symm)
    have haR:¬ (a<k∧R a):=fun q=>hak (by have:=h3 a ha q;rw[ea] at this;exact this.symm)
    have hc:cyc n g a k:=⟨ha,hkn,1,ea⟩
    refine⟨swp g a k,h1.swap ha hkn hak,h2.part h1 he hak hc,fun x hx hr=>?_,fun x hx hr hr'=>?_,fun x hx hr=>?_⟩
    ·rcases (hsp x).1 hr with q|rfl
     ·rw[swp_o g (fun e=>haR (by rw[←e];exact q)) (by omega)]
      exact h3 x hx q
     ·rw[swp_b g hak,ea]
    ·have hxk:x≠k:=fun e=>hr ((hsp x).2 (Or.inr e))
     have hxR:¬ (x<k∧R x):=fun q=>hr ((hsp x).2 (Or.inl q))
     by_cases e:x=a
     ·rw[e,swp_a] at hr'
      rcases (hsp _).1 hr' with q|q
      ·exact h4 k hkn hkk q
      ·exact hfix q
     ·rw[swp_o g e hxk] at hr'
      rcases (hsp _).1 hr' with q|q
      ·exact h4 x hx hxR q
      ·exact e (h1.inj hx ha (q.trans ea.symm))
    ·have hxk:x≠k:=fun e=>hr ((hsp x).2 (Or.inr e))
     have hxR:¬ (x<k∧R x):=fun q=>hr ((hsp x).2 (Or.inl q))
     obtain⟨j,j1,j2,j3⟩:=h5 x hx hxR
     by_cases e:x=a
     ·subst e
      rw[swp_a]
      obtain⟨l,l1,l2,l3⟩:=h5 k hkn hkk
      rw[ea] at j2
      refine⟨l+j,by omega,by rw[itf_add,j2,l2],fun i i1 i2=>?_⟩
      rcases Nat.lt_trichotomy i j with q|q|q
      ·exact (hsp _).2 (Or.inl (j3 i i1 q))
      ·exact (hsp _).2 (Or.inr (by rw[q,j2]))
      ·have k1:=l3 (i-j) (by omega) (by omega)
       have k3:itf f (i-j) k=itf f i x:=by rw[←j2,←itf_add,show i-j+j=i by omega]
       rw[k3] at k1
       exact (hsp _).2 (Or.inl k1)
     ·rw[swp_o g e hxk]
      exact⟨j,j1,j2,fun i a b=>(hsp _).2 (Or.inl (j3 i a b))⟩
theorem PlanF.out {n:Nat} {f:Nat→Nat} (hp:PlanF n f) (h:Pm n f) (he:n % 2=0) (R:Nat→Prop) (hR:∀ x,R x→x<n):∃ g,PullF n f R g:=by
 obtain⟨g,k⟩:=hp.pull h he R n (Nat.le_refl _)
 rw[show (fun x=>x<n∧R x)=R from funext fun x=>propext ⟨fun q=>q.2,fun q=>⟨hR x q,q⟩⟩] at k
 exact⟨g,k⟩
theorem PullF.cyc {n:Nat} {f g:Nat→Nat} {R:Nat→Prop} (hg:PullF n f R g) (h:Pm n f) {x y:Nat} (hx:¬ R x) (hy:¬ R y) (hc:Go.Proofs.YtgphnkkdmlohlaaGreatDoor.cyc n f x y):Go.Proofs.YtgphnkkdmlohlaaGreatDoor.cyc n g x y:=by
 obtain⟨hx',hy',m,e⟩:=hc
 induction m using Nat.strongRecOn generalizing x with
 | ind m ih=>
  by_cases hm:m=0
  ·subst hm
   have e:x=y:=e
   subst e
   exact hg.pm.per.refl hx'
  ·obtain⟨j,j1,j2,j3⟩:=hg.next x hx' hx
   have hjm:j≤m:=by
    rcases Nat.lt_or_ge m j with q|q
    ·exact absurd (e ▸ j3 m (by omega) q) hy
    ·exact q
   have e2:itf f (m-j) (g x)=y:=by rw[←j2,←itf_add,show m-j+j=m by omega];exact e
   exact hg.pm.per.trans (hg.pm.step hx') (ih (m-j) (by omega) (hg.stay x hx' hx) (hg.pm.lt hx') e2)
end
section
set_option linter.unusedVariables false
set_option linter.unusedSectionVars false
def prI (k i:Nat):Nat:=if i=0 then k else i-1
def nxI (k i:Nat):Nat:=if i=k then 0 else i+1
theorem nxI_le {k i:Nat} (h:i≤k):nxI k i≤k:=by unfold nxI;split <;> omega
theorem prI_le {k i:Nat} (h:i≤k):prI k i≤k:=by unfold prI;split <;> omega
theorem prI_nxI {k i:Nat} (h:i≤k):prI k (nxI k i)=i:=by unfold prI nxI;split <;> split <;> omega
def onB (n:Nat) (f:Nat→Nat) (k:Nat) (a:Nat→Nat) (x:Nat):Prop:=∃ i,i≤k∧cyc n f (a i) x
structure Rim (n:Nat) (f:Nat→Nat) (k:Nat) (a:Nat→Nat):Prop where
 two:2≤k
 lt:∀ i,i≤k→a i<n
 one:∀ i j,i≤k→j≤k→cyc n f (a i) (a j)→i=j
 side:∀ i,i≤k→∃ j,0<j∧itf f j (a i)=a (prI k i) ^^^ 1∧∀ l,0<l→l<j→¬ onB n f k a (itf f l (a i) ^^^ 1)
structure Simp (n:Nat) (f:Nat→Nat):Prop where
 pm:Pm n f
 even:n % 2=0
 plan:PlanF n f
 loop:∀ x,x<n→¬ cyc n f x (x ^^^ 1)
 dbl:∀ x y,x<n→y<n→cyc n f x y→cyc n f (x ^^^ 1) (y ^^^ 1)→x=y
section
variable {n : Nat} {f : Nat → Nat} {k : Nat} {a : Nat → Nat}
def offB (n:Nat) (f:Nat→Nat) (k:Nat) (a:Nat→Nat) (x:Nat):Prop:=x<n∧¬ (onB n f k a x∧onB n f k a (x ^^^ 1))
def outer (k:Nat) (a:Nat→Nat) (x:Nat):Prop:=∃ i,i≤k∧x=a i ^^^ 1
def innerB (n:Nat) (f:Nat→Nat) (k:Nat) (a:Nat→Nat) (x:Nat):Prop:=x<n∧¬ offB n f k a x∧¬ outer k a x
def chordB (n:Nat) (f:Nat→Nat) (k:Nat) (a:Nat→Nat) (x:Nat):Prop:=innerB n f k a x∧∀ i,i≤k→x≠a i
theorem onB.cyc (hs:Simp n f) {x y:Nat} (h:onB n f k a x) (hc:Go.Proofs.YtgphnkkdmlohlaaGreatDoor.cyc n f x y):onB n f k a y:=by
 obtain⟨i,hi,h⟩:=h;exact⟨i,hi,hs.pm.per.trans h hc⟩
theorem on_of {x:Nat} (hx:x<n) (h:¬ offB n f k a x):onB n f k a x∧onB n f k a (x ^^^ 1):=Classical.byContradiction fun q=>h ⟨hx,q⟩
theorem off_not {x:Nat} (h1:onB n f k a x) (h2:onB n f k a (x ^^^ 1)):¬ offB n f k a x:=fun q=>q.2 ⟨h1,h2⟩
theorem off_mate (hs:Simp n f) {x:Nat}:offB n f k a (x ^^^ 1)↔offB n f k a x:=by
 have key:∀ x,offB n f k a x→offB n f k a (x ^^^ 1):=fun x q=>⟨xor_one_lt hs.even q.1,fun w=>q.2 ⟨by have:=w.2;rwa [xor_one_one] at this,w.1⟩⟩
 exact⟨fun q=>by have:=key _ q;rwa [xor_one_one] at this,key x⟩
variable (hs : Simp n f) (hr : Rim n f k a)
include hs hr
theorem Rim.at_next {i:Nat} (hi:i≤k):Go.Proofs.YtgphnkkdmlohlaaGreatDoor.cyc n f (a (nxI k i)) (a i ^^^ 1):=by
 obtain⟨j,_,e,_⟩:=hr.side (nxI k i) (nxI_le hi)
 rw[prI_nxI hi] at e
 exact⟨hr.lt _ (nxI_le hi),xor_one_lt hs.even (hr.lt i hi),j,e⟩
theorem Rim.on {i:Nat} (hi:i≤k):onB n f k a (a i):=⟨i,hi,hs.pm.per.refl (hr.lt i hi)⟩
theorem Rim.on' {i:Nat} (hi:i≤k):onB n f k a (a i ^^^ 1):=⟨_,nxI_le hi,hr.at_next hs hi⟩
theorem Rim.stay {i:Nat} (hi:i≤k):¬ offB n f k a (a i):=off_not (hr.on hs hi) (hr.on' hs hi)
theorem Rim.stay' {i:Nat} (hi:i≤k):¬ offB n f k a (a i ^^^ 1):=fun q=>hr.stay hs hi ((off_mate hs).1 q)
theorem Rim.not_outer {i:Nat} (hi:i≤k):¬ outer k a (a i):=by
 rintro⟨j,hj,e⟩
 have h1:=hr.at_next hs hj
 rw[←e] at h1
 have e1:=hr.one _ _ (nxI_le hj) hi h1
 have h2:=hr.at_next hs hi
 rw[e,xor_one_one] at h2
 have e2:=hr.one _ _ (nxI_le hi) hj h2
 have:=hr.two
 unfold nxI at e1 e2
 split at e1 <;> split at e2 <;> omega
variable {g : Nat → Nat} (hg : PullF n f (offB n f k a) g)
include hg
theorem Rim.turn {i:Nat} (hi:i≤k):g (a i)=a (prI k i) ^^^ 1:=by
 obtain⟨j,j1,j2,j3⟩:=hr.side i hi
 obtain⟨l,l1,l2,l3⟩:=hg.next (a i) (hr.lt i hi) (hr.stay hs hi)
 have hst:=hg.stay (a i) (hr.lt i hi) (hr.stay hs hi)
 rcases Nat.lt_trichotomy j l with q|q|q
 ·have:=l3 j j1 q
  rw[j2] at this
  exact absurd this (hr.stay' hs (prI_le hi))
 ·rw[←l2,←q,j2]
 ·have h1:=j3 l l1 q
  rw[l2] at h1
  exact absurd (on_of (hg.pm.lt (hr.lt i hi)) hst).2 h1
theorem Rim.phi_out {i:Nat} (hi:i≤k):phiF g (a i ^^^ 1)=a (prI k i) ^^^ 1:=by unfold phiF;rw[xor_one_one];exact hr.turn hs hg hi
theorem Rim.phi_in {x:Nat} (hx:innerB n f k a x):innerB n f k a (phiF g x):=by
 obtain⟨h1,h2,h3⟩:=hx
 have h4:¬ offB n f k a (x ^^^ 1):=fun q=>h2 ((off_mate hs).1 q)
 have h5:=xor_one_lt hs.even h1
 refine⟨hg.pm.lt h5,hg.stay _ h5 h4,?_⟩
 rintro⟨i,hi,e⟩
 have e2:=hr.phi_out hs hg (nxI_le hi)
 rw[prI_nxI hi,←e] at e2
 exact h3 ⟨_,nxI_le hi,(hg.pm.phi hs.even).inj h1 (xor_one_lt hs.even (hr.lt _ (nxI_le hi))) e2.symm⟩
theorem Rim.head {x:Nat} (hx:innerB n f k a x):Go.Proofs.YtgphnkkdmlohlaaGreatDoor.cyc n f (x ^^^ 1) (phiF g x):=by
 have h4:¬ offB n f k a (x ^^^ 1):=fun q=>hx.2.1 ((off_mate hs).1 q)
 have h5:=xor_one_lt hs.even hx.1
 obtain⟨j,_,e,_⟩:=hg.next _ h5 h4
 exact⟨h5,hg.pm.lt h5,j,e⟩
theorem Rim.inner_a {i:Nat} (hi:i≤k):innerB n f k a (a i):=⟨hr.lt i hi,hr.stay hs hi,hr.not_outer hs hi⟩
theorem Rim.phi_a {i j:Nat} (hi:i≤k) (hj:j≤k) (e:phiF g (a j)=a i):i=nxI k j:=by
 have h1:=hr.head hs hg (hr.inner_a hs hg hj)
 rw[e] at h1
 exact (hr.one _ _ (nxI_le hj) hi (hs.pm.per.trans (hr.at_next hs hj) h1)).symm
variable (hno : ∀ i, 0 < i → i < k → ∃ x, cyc n f (a i) x ∧ onB n f k a (x ^^^ 1) ∧ x ≠ a i ∧ x ≠ a (i - 1) ^^^ 1)
include hno
theorem Rim.step {j:Nat} (hj:j+1<k):chordB n f k a (phiF g (a j)):=by
 refine⟨hr.phi_in hs hg (hr.inner_a hs hg (by omega)),fun i hi e=>?_⟩
 have e1:=hr.phi_a hs hg hi (by omega) e
 have e2:i=j+1:=by rw[e1];unfold nxI;rw[if_neg (by omega)]
 subst e2
 obtain⟨x,x1,x2,x3,x4⟩:=hno (j+1) (by omega) hj
 rw[Nat.add_sub_cancel] at x4
 have hK:¬ offB n f k a x:=off_not ((hr.on hs hi).cyc hs x1) x2
 obtain⟨_,_,m,em⟩:=hg.cyc hs.pm (hr.stay hs hi) hK x1
 have t1:g (a (j+1))=a j ^^^ 1:=by rw[hr.turn hs hg hi];unfold prI;rw[if_neg (by omega),Nat.add_sub_cancel]
 have t2:g (a j ^^^ 1)=a (j+1):=e
 have:∀ m,itf g m (a (j+1))=a (j+1)∨itf g m (a (j+1))=a j ^^^ 1:=fun m=>by
  induction m with
  | zero=>exact Or.inl rfl
  | succ m ih=>
   rw[itf_succ]
   rcases ih with q|q
   ·rw[q,t1];exact Or.inr rfl
   ·rw[q,t2];exact Or.inl rfl
 rcases this m with q|q
 ·exact x3 (em.symm.trans q)
 ·exact x4 (em.symm.trans q)
theorem Rim.chord_a {x:Nat} (hx:innerB n f k a x) (hk:x≠a k) (hk':phiF g x≠a k) (hc:¬ chordB n f k a x):chordB n f k a (phiF g x):=by
 have:∃ j,j≤k∧x=a j:=Classical.byContradiction fun q=>hc ⟨hx,fun i hi e=>q ⟨i,hi,e⟩⟩
 obtain⟨j,hj,rfl⟩:=this
 have hjk:j≠k:=fun e=>hk (by rw[e])
 by_cases h1:j+1<k
 ·exact hr.step hs hg hno h1
 ·refine⟨hr.phi_in hs hg hx,fun i hi e=>?_⟩
  have e1:=hr.phi_a hs hg hi hj e
  have:i=k:=by rw[e1];unfold nxI;rw[if_neg hjk];omega
  exact hk' (by rw[e,this])
theorem Rim.two_chords {r:Nat} (hx:innerB n f k a r) (hk:∀ x,cyc n (phiF g) r x→x≠a k):
  (∃ c,cyc n (phiF g) r c∧chordB n f k a c)∧∀ c,cyc n (phiF g) r c→chordB n f k a c→∃ d,cyc n (phiF g) r d∧chordB n f k a d∧d≠c:=by
 have hphi:=hg.pm.phi hs.even
 refine⟨?_,fun c hc hcc=>?_⟩
 ·by_cases h1:chordB n f k a r
  ·exact⟨r,hphi.per.refl hx.1,h1⟩
  ·exact⟨_,hphi.step hx.1,hr.chord_a hs hg hno hx (hk _ (hphi.per.refl hx.1)) (hk _ (hphi.step hx.1)) h1⟩
 ·have hs1:=hphi.per.trans hc (hphi.step hc.2.1)
  have hi1:=hr.phi_in hs hg hcc.1
  have hh:=hr.head hs hg hcc.1
  by_cases h1:chordB n f k a (phiF g c)
  ·refine⟨_,hs1,h1,fun e=>?_⟩
   rw[e] at hh
   exact hs.loop _ hc.2.1 (hs.pm.per.symm hh)
  ·have hs2:=hphi.per.trans hs1 (hphi.step hi1.1)
   refine⟨_,hs2,hr.chord_a hs hg hno hi1 (hk _ hs1) (hk _ hs2) h1,fun e=>?_⟩
   have:∃ j,j≤k∧phiF g c=a j:=Classical.byContradiction fun q=>h1 ⟨hi1,fun i hi e=>q ⟨i,hi,e⟩⟩
   obtain⟨j,hj,ej⟩:=this
   have hh2:=hr.head hs hg hi1
   rw[e,ej] at hh2
   rw[ej] at hh
   have:=hs.dbl c (a j ^^^ 1) hc.2.1 (xor_one_lt hs.even (hr.lt j hj)) (hs.pm.per.symm hh2) (by rw[xor_one_one];exact hh)
   exact hcc.1.2.2 ⟨j,hj,this⟩
theorem Rim.one_chord:∃ c,cyc n (phiF g) (a k) c∧chordB n f k a c:=by
 have hphi:=hg.pm.phi hs.even
 have hi:=hr.inner_a hs hg (Nat.le_refl k)
 have hi1:=hr.phi_in hs hg hi
 by_cases h1:chordB n f k a (phiF g (a k))
 ·exact⟨_,hphi.step hi.1,h1⟩
 ·have:∃ j,j≤k∧phiF g (a k)=a j:=Classical.byContradiction fun q=>h1 ⟨hi1,fun i hi e=>q ⟨i,hi,e⟩⟩
  obtain⟨j,hj,ej⟩:=this
  have e0:=hr.phi_a hs hg hj (Nat.le_refl k) ej
  have e1:j=0:=by rw[e0];unfold nxI;rw[if_pos rfl]
  subst e1
  have:=hr.two
  refine⟨phiF g (a 0),?_,hr.step hs hg hno (by omega)⟩
  have h2:=hphi.per.trans (hphi.step hi.1) (hphi.step hi1.1)
  rw[ej] at h2
  exact h2
end
end
end Go.Proofs.YtgphnkkdmlohlaaGreatDoor
