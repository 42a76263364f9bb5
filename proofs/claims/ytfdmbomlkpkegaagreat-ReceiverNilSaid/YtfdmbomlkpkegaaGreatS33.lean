/- Lemmas for ReceiverNil. -/
import Derived.Test.YtfdmbomlkpkegaaGreatS16
import Derived.Test.YtfdmbomlkpkegaaGreatS25
set_option maxRecDepth 100000
set_option maxHeartbeats 8000000
set_option linter.all false
namespace Go.Proofs.YtfdmbomlkpkegaaGreat
open Go Go.RowKit Go.ChangeShapes Go.WideShapes Go.ChangeAt Go.Deep
section
variable {H:Type} {enc:TypeId × Value->H} {W:World}
theorem Jw {k:IntKind} {n:Int} (h0:k.min=0) (w:(Lit.int k n).wf=true):∃ m:Nat,n=m:=⟨n.toNat,(Int.toNat_of_nonneg (by have:=(Jt w).1;omega)).symm⟩
theorem slice_len1 {v:Value} {fuel:Nat} {ts te:TypeId} (hu:Tryz.prog.underlying ts=some (.slice te)) {x:DataW H × List MemPlace} (h:DataW.trod enc Tryz.prog W 0 (fun _=>true) true fuel ts [v]=some x):∃ ao n cap,v=.slice ao n cap:=by
 rcases open_slice hu h with ⟨hcs,_⟩ | ⟨a,len,cap',m,fu,D,Pl,hcs,_⟩
 ·simp at hcs;exact ⟨_,_,_,hcs⟩
 ·simp at hcs;exact ⟨_,_,_,hcs⟩
end
end Go.Proofs.YtfdmbomlkpkegaaGreat
namespace Go.Proofs.YtfdmbomlkpkegaaGreat
open Go Go.RowKit Go.Dr
end Go.Proofs.YtfdmbomlkpkegaaGreat
