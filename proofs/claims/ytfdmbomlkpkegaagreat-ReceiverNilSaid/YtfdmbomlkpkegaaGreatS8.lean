/- Lemmas for ReceiverNil. -/
import Derived.Test.YtfdmbomlkpkegaaGreatS7
set_option maxRecDepth 100000
set_option maxHeartbeats 8000000
set_option linter.all false
namespace Go.Proofs.YtfdmbomlkpkegaaGreat
open Go Go.RowKit
theorem wSkip_spec {w:World} {u:Value} {x:WinS} (h:WinV w u x) (hp:x.Pre) (hb:∀ r∈x.set,r.2<9223372036854775807) (b:Nat) (hbb:b<=4611686018427387904) :
  Calls Tryz.prog 64 #[u,.int .u64 b] w fun e w'=>∃ u',e=.returned u'/\WinV w' u' (x.skip b)/\Keep No w w':=by
 obtain ⟨ao,cap,rfl,hr⟩:=h.form
 have hlow:=hp.low
 obtain ⟨a,ha⟩:∃ a,a=x.low+1:=⟨_,rfl⟩
 have hwa:IntKind.u64.wrap ((x.low:Int)+1)=(a:Int):=by rw [wraps_u64 _ (by omega) (by omega)];omega
 by_cases hc:b<=a
 ·have e:x.skip b=x:=by unfold WinS.skip;rw [if_pos (by omega)]
  rw [e]
  have hci:(b:Int)<=(a:Int):=by omega
  have kZ:Keep No w ((w.alloc (.cells #[.int .u64 x.low,.int .u64 x.width,.slice ao x.set.length cap] 92)).alloc (.cells #[.int .u64 x.low,.int .u64 x.width,.slice ao x.set.length cap] 92)):=((Keep.refl _ _).alloc _).alloc _
  have hZ:=Qy (w.alloc (.cells #[.int .u64 x.low,.int .u64 x.width,.slice ao x.set.length cap] 92)) (.cells #[.int .u64 x.low,.int .u64 x.width,.slice ao x.set.length cap] 92)
  rw [World.size_alloc] at hZ
  have z0:=Qq hZ 0
  have z1:=Qq hZ 1
  have z2:=Qq hZ 2
  simp at z0 z1 z2
  have HH:=Lib.hid (A2 kZ (hr.no kZ))
  clear h hr hp hlow hc e hZ kZ ha hbb hb
  go_enter Tryz.func64,Tryz.ntmps64
  go_wp2_with fail
  refine bodyPost_ret (v:=.agg #[.int .u64 x.low,.int .u64 x.width,.slice ao x.set.length cap]) (by simp [results,Tryz.results64,go_sem]) rfl ?_
  exact ⟨_,rfl,⟨_,rfl,HH.out.2⟩,HH.out.1⟩
 ·have e:x.skip b=(⟨b - 1,x.width,x.set⟩:WinS).closed:=by unfold WinS.skip;rw [if_neg (by omega)]
  obtain ⟨y,hy⟩:∃ y,y=(⟨b - 1,x.width,x.set⟩:WinS).closed:=⟨_,rfl⟩
  rw [e,<- hy]
  have HY:=Lib.hid hy
  have hci:¬(b:Int)<=(a:Int):=by omega
  obtain ⟨c,hcb⟩:∃ c,c=b - 1:=⟨_,rfl⟩
  have hwb:IntKind.u64.wrap ((b:Int) - 1)=(c:Int):=by rw [wraps_u64 _ (by omega) (by omega)];omega
  rw [<- hcb] at HY
  obtain ⟨W,hW⟩:∃ W,W=(w.alloc (.cells #[.int .u64 c,.int .u64 x.width,.slice ao x.set.length cap] 92)).alloc (.cells #[.int .u64 0,.int .u64 0,.slice none 0 0] 92):=⟨_,rfl⟩
  have kW:Keep No w W:=by rw [hW];exact ((Keep.refl _ _).alloc _).alloc _
  have hA:W.heap[w.heap.size]?=some (.cells #[.int .u64 c,.int .u64 x.width,.slice ao x.set.length cap] 92 (0,0)):=by
   rw [hW]
   exact ((Keep.refl No _).alloc _).heap (Qy _ _) (fun e=>e)
  have hB:W.heap[w.heap.size+1]?=some (.cells #[.int .u64 0,.int .u64 0,.slice none 0 0] 92 (0,0)):=by
   rw [hW]
   have:=Qy (w.alloc (.cells #[.int .u64 c,.int .u64 x.width,.slice ao x.set.length cap] 92)) (.cells #[.int .u64 0,.int .u64 0,.slice none 0 0] 92)
   rw [World.size_alloc] at this
   exact this
  have hcl:=wClosed_spec (w:=W) (x:=⟨c,x.width,x.set⟩) ⟨_,rfl,hr.no kW⟩ hp.set hp.few (by show c<_;omega) hb
  have HH:=Lib.hid (A2 kW hB)
  clear h hr hp hlow hc e ha hbb hb kW hA hB hcb hy
  go_enter Tryz.func64,Tryz.ntmps64
  go_wp2_with fail
  rw [<- hW]
  clear hW
  refine hcl.mono ?_
  rintro e w4 ⟨u4,rfl,hw4,k4⟩
  clear hcl
  rw [<- HY.out] at hw4
  obtain ⟨o4,cp4,rfl,hr4⟩:=hw4.form
  have hB4:=k4.heap HH.out.2 (fun e=>e)
  have q0:=Qq hB4 0
  have q1:=Qq hB4 1
  have q2:=Qq hB4 2
  have fB:=Qg hB4
  simp at q0 q1 q2
  have H3:=Lib.hid (A3 k4 hB4 hr4)
  clear hB4 k4 hr4 hw4
  go_wp2_with fail
  have hB:=H3.out.2.1
  obtain ⟨hZ,kZ⟩:=Rz (.int .u64 y.low) (.int .u64 y.width) (.slice o4 y.set.length cp4) hB
  have z0:=Qq hZ 0
  have z1:=Qq hZ 1
  have z2:=Qq hZ 2
  simp at z0 z1 z2
  refine bodyPost_ret (v:=.agg #[.int .u64 y.low,.int .u64 y.width,.slice o4 y.set.length cp4]) (by simp [results,Tryz.results64,go_sem,z0,z1,z2]) rfl ?_
  refine ⟨_,rfl,⟨_,rfl,H3.out.2.2.keep (Zn.block hB (by decide)) kZ⟩,?_⟩
  exact (HH.out.1.then H3.out.1).trans kZ (fun x hx e=>by omega)
theorem wSame_spec {w:World} {ua ub:Value} {x y:WinS} (ha:WinV w ua x) (hb:WinV w ub y) (hx:x.set.length<=268435456) (hy:y.set.length<=268435456) :
  Calls Tryz.prog 42 #[ua,ub] w fun e w'=>e=.returned (.bool (decide (x=y)))/\Keep No w w':=by
 obtain ⟨ao,ac,rfl,har⟩:=ha.form
 obtain ⟨bo,bc,rfl,hbr⟩:=hb.form
 have kW:Keep No w ((w.alloc (.cells #[.int .u64 x.low,.int .u64 x.width,.slice ao x.set.length ac] 92)).alloc (.cells #[.int .u64 y.low,.int .u64 y.width,.slice bo y.set.length bc] 92)):=((Keep.refl _ _).alloc _).alloc _
 have hs:=rSame_spec (har.no kW) (hbr.no kW) hx hy
 obtain ⟨bb,hbb⟩:∃ bb,bb=decide (x=y):=⟨_,rfl⟩
 rw [<- hbb]
 have HH:=Lib.hid kW
 obtain ⟨xl,xw,xs⟩:=x
 obtain ⟨yl,yw,ys⟩:=y
 simp only at hs hx hy
 by_cases h1:xl=yl
 ·by_cases h2:xw=yw
  ·subst h1 h2
   have e:decide (xs=ys)=bb:=by rw [hbb];simp
   rw [e] at hs
   clear ha hb har hbr kW hx hy hbb e
   go_enter Tryz.func42,Tryz.ntmps42
   go_wp2_with (go_at_call 92;refine hs.mono ?_;rintro e w' ⟨rfl,k2⟩)
   go_ret
   exact ⟨rfl,HH.out.then k2⟩
  ·have hq:((xw:Int)==(yw:Int))=false:=by simp;omega
   obtain rfl:bb=false:=by rw [hbb];simp [h2]
   subst h1
   clear ha hb har hbr kW hx hy hbb hs h2
   go_enter Tryz.func42,Tryz.ntmps42
   go_wp2_with fail
   go_ret
   exact ⟨rfl,HH.out⟩
 ·have hq:((xl:Int)==(yl:Int))=false:=by simp;omega
  obtain rfl:bb=false:=by rw [hbb];simp [h1]
  clear ha hb har hbr kW hx hy hbb hs h1
  go_enter Tryz.func42,Tryz.ntmps42
  go_wp2_with fail
  go_ret
  exact ⟨rfl,HH.out⟩
end Go.Proofs.YtfdmbomlkpkegaaGreat
