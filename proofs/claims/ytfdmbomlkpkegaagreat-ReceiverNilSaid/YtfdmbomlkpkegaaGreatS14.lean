/- Lemmas for ReceiverNil. -/
import Derived.Test.YtfdmbomlkpkegaaGreatS10
import Derived.Test.YtfdmbomlkpkegaaGreatS9
import Derived.Test.YtfdmbomlkpkegaaGreatS1
import Derived.OwnWalk
set_option maxRecDepth 100000
set_option maxHeartbeats 8000000
set_option linter.all false
namespace Go.Proofs.YtfdmbomlkpkegaaGreat
open Go Go.RowKit Go.Dr
section
variable [bn:Inhabited Ban] {base:Nat} {w w':World} {p n s q:Nat} {wv lv:Value} {d:Qr} {x:Qn}
theorem Zs.kind (h:Zs base w q lv x) {b:Nat} (hb:b=q\/lv.ownBlock=some b):base<=b/\∃ cs t,w.heap[b]?=some (.cells cs t (0,0))/\(t=119\/t=244):=by
 rcases hb with rfl | hb
 ·exact ⟨h.qb,_,_,h.blk,.inl rfl⟩
 ·obtain ⟨h1,cur,hz⟩:=h.calls.kind b hb
  exact ⟨h1,_,_,hz,.inr rfl⟩
theorem Zs.foot (h:Zs base w q lv x):Foot base w (fun b=>b=q\/lv.ownBlock=some b):=by
 intro b hb
 obtain ⟨h1,cs,t,hz,ht⟩:=h.kind hb
 exact ⟨h1,Qt hz,fun cs fr e=>by rw [hz] at e;simp at e;obtain ⟨_,rfl,_⟩:=e;rcases ht with ht | ht <;> simp at ht⟩
end
end Go.Proofs.YtfdmbomlkpkegaaGreat
