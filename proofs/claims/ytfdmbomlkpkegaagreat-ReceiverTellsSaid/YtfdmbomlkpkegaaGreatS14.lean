/- Lemmas. -/
import Derived.Test.YtfdmbomlkpkegaaGreatS8
import Derived.ProofKit
import Derived.OpenShut
import Derived.ShutString
import Derived.ChangeOld
import Derived.Deep.Slices
set_option maxRecDepth 100000
set_option maxHeartbeats 8000000
set_option linter.all false
set_option autoImplicit true
set_option relaxedAutoImplicit true
open Go.World renaming block_lt_of_cell?->I0
open UInt8 renaming ofNat->D7
namespace Go.Proofs.YtfdmbomlkpkegaaGreat
open Go Go.RowKit Go.ChangeShapes Go.WideShapes Go.ChangeAt Go.Deep
section
variable {H:Type}{enc:TypeId × Value->H}{W:World}
theorem Jt(h:(Lit.int k n).wf=true):k.min<=n/\n<=k.max:=by simpa[Lit.wf]using h
theorem Iv[bn:Ib](q:ban.top=0){j:Nat}{cs:List Value}{x:DataW H×List MemPlace}(h:DataW.trod enc Tryz.prog W 0 (λ_=>true) true j 59 cs=some x) :
  ∃v l,cs=[v]/\Qv W.heap.size W v l:=by
 rcases open_ints Tryz.underlying59 Tryz.underlying5 (by kernel_rfl) h with⟨rfl,_⟩|⟨a,len,cap,m,rfl,_,D,A,p,_,f,o⟩
 ·exact⟨_,[],rfl,Qv.nil _ _⟩
 ·have p:m.length=cap:=by simpa using p
  refine⟨_,(m.take len).map (λz=>D7 z.toNat),rfl,some a,cap,?_,?_,A,λh=>(by cases h),?_⟩
  ·simp[p];omega
  ·simp;omega
  ·intro i y g;rw[List.getElem?_map]at g;cases d:(m.take len)[i]? with
   | none=>rw[d]at g;cases g
   | some z =>
    rw[d]at g;simp at g;subst g;rw[List.getElem?_take]at d
    split at d
    ·have hi:i<m.length:=(List.getElem?_eq_some_iff.1 d).1;have n:=f i hi;have e:m.getD i 0=z:=by simp[List.getD,d]
     rw[e]at n;have w:=o z (List.mem_of_getElem? d);have k:=Jt w;have B:0<=z:=k.1;have C:z<=255:=k.2;refine⟨a,rfl,⟨?_,.inl ?_,λh=>by have:=ban.lt _ h;omega,by omega⟩,?_⟩
     ·have:=I0 W _ n;rw[Addr.block_add]at this;exact this
     ·have:=I0 W _ n;rw[Addr.block_add]at this;exact this
     ·rw[n];have:((D7 z.toNat).toNat:Int)=z:=by simp;omega
      unfold u8v;rw[this]
    ·cases d
end
theorem own:ownKnob Tryz.prog.godebug=none:=by kernel_rfl
theorem GK:laidOutB Tryz.prog=true:=by kernel_rfl
section
variable {H:Type}{enc:TypeId × Value->H}{W:World}
end
end Go.Proofs.YtfdmbomlkpkegaaGreat
