/- Lemmas for LedgerPlays. -/
import Derived.Test.YtfdmbomlkpkegaaGreatS9
import Derived.ProofKit
import Derived.OpenShut
import Derived.ShutString
import Derived.ChangeOld
import Derived.Deep.Slices
set_option maxRecDepth 100000
set_option maxHeartbeats 8000000
set_option linter.all false
namespace Go.Proofs.YtfdmbomlkpkegaaGreat
open Go Go.RowKit Go.ChangeShapes Go.WideShapes Go.ChangeAt Go.Deep
section
variable {H:Type} {enc:TypeId × Value->H} {W:World}
theorem Jt {k:IntKind} {n:Int} (h:(Lit.int k n).wf=true):k.min<=n/\n<=k.max:=by simpa [Lit.wf] using h
theorem bytes_of_trod [bn:Inhabited Ban] (hban:ban.top=0) {fuel:Nat} {cs:List Value} {x:DataW H × List MemPlace} (h:DataW.trod enc Tryz.prog W 0 (fun _=>true) true fuel 59 cs=some x) :
  ∃ v l,cs=[v]/\Qv W.heap.size W v l:=by
 rcases open_ints Tryz.underlying59 Tryz.underlying5 (by kernel_rfl) h with ⟨rfl,_⟩ | ⟨a,len,cap,zs,rfl,_,hl,hm,hz,_,hcell,hwf⟩
 ·exact ⟨_,[],rfl,Qv.nil _ _⟩
 ·have hz:zs.length=cap:=by simpa using hz
  refine ⟨_,(zs.take len).map (fun z=>UInt8.ofNat z.toNat),rfl,some a,cap,?_,?_,hm,fun h=>(by cases h),?_⟩
  ·simp [hz];omega
  ·simp;omega
  ·intro i y hy
   rw [List.getElem?_map] at hy
   cases hz':(zs.take len)[i]? with
   | none=>rw [hz'] at hy;cases hy
   | some z =>
    rw [hz'] at hy
    simp at hy
    subst hy
    rw [List.getElem?_take] at hz'
    split at hz'
    ·have hi:i<zs.length:=(List.getElem?_eq_some_iff.1 hz').1
     have hc:=hcell i hi
     have e:zs.getD i 0=z:=by simp [List.getD,hz']
     rw [e] at hc
     have hb:=hwf z (List.mem_of_getElem? hz')
     have hb':=Jt hb
     have h0:0<=z:=hb'.1
     have h1:z<=255:=hb'.2
     refine ⟨a,rfl,⟨?_,.inl ?_,fun h=>by have:=ban.lt _ h;omega,by omega⟩,?_⟩
     ·have:=World.block_lt_of_cell? W _ hc;rw [Addr.block_add] at this;exact this
     ·have:=World.block_lt_of_cell? W _ hc;rw [Addr.block_add] at this;exact this
     ·rw [hc]
      have:((UInt8.ofNat z.toNat).toNat:Int)=z:=by simp;omega
      unfold u8v;rw [this]
    ·cases hz'
end
theorem own:ownKnob Tryz.prog.godebug=none:=by kernel_rfl
theorem laidOut:laidOutB Tryz.prog=true:=by kernel_rfl
section
variable {H:Type} {enc:TypeId × Value->H} {W:World}
end
end Go.Proofs.YtfdmbomlkpkegaaGreat
