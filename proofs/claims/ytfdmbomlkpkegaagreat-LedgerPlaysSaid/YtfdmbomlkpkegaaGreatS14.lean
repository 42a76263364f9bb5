/- Lemmas for LedgerPlays. -/
import Derived.Test.YtfdmbomlkpkegaaGreatS10
import Derived.Test.YtfdmbomlkpkegaaGreatS9
import Derived.Test.YtfdmbomlkpkegaaGreatS1
import Derived.OwnWalk
set_option maxRecDepth 100000
set_option maxHeartbeats 8000000
set_option linter.all false
namespace Go.Proofs.YtfdmbomlkpkegaaGreat
open Go Go.RowKit Go.Dr
section
variable [bn:Inhabited Ban] {base:Nat} {w w':World} {p n s q:Nat} {wv lv:Value} {d:Qr} {x:Qn}
theorem Zs.kind (h:Zs base w q lv x) {b:Nat} (hb:b=q\/lv.ownBlock=some b):base<=b/\∃ cs t,w.heap[b]?=some (.cells cs t (0,0))/\(t=119\/t=244):=by
 rcases hb with rfl | hb
 ·exact ⟨h.qb,_,_,h.blk,.inl rfl⟩
 ·obtain ⟨h1,cur,hz⟩:=h.calls.kind b hb
  exact ⟨h1,_,_,hz,.inr rfl⟩
theorem Zs.foot (h:Zs base w q lv x):Foot base w (fun b=>b=q\/lv.ownBlock=some b):=by
 intro b hb
 obtain ⟨h1,cs,t,hz,ht⟩:=h.kind hb
 exact ⟨h1,Qt hz,fun cs fr e=>by rw [hz] at e;simp at e;obtain ⟨_,rfl,_⟩:=e;rcases ht with ht | ht <;> simp at ht⟩
theorem Qo.apart (h:Qo base w p n s wv d) (hx:Zs base w q lv x) {b:Nat} (hb:b=q\/lv.ownBlock=some b):¬Go.Proofs.YtfdmbomlkpkegaaGreat.foot p n s wv b:=fun hf=>by
 obtain ⟨_,cs,t,hz,ht⟩:=hx.kind hb
 rcases h.foot_kind hf hz with rfl | rfl <;> rcases ht with ht | ht <;> simp at ht
theorem Zs.byD (hx:Zs base w q lv x) (h:Qo base w p n s wv d) (k:Keep (Go.Proofs.YtfdmbomlkpkegaaGreat.foot p n s wv) w w'):Zs base w' q lv x :=
 ⟨k.heap hx.blk (h.apart hx (.inl rfl)),hx.calls.keep h.foot_ok k (fun _ hb=>h.apart hx (.inr hb)),hx.qb⟩
theorem Qo.byX (h:Qo base w p n s wv d) (hx:Zs base w q lv x) (k:Keep (·=q) w w'):Qo base w' p n s wv d :=
 h.keep (F:=(·=q)) (fun b hb=>hx.foot b (.inl hb)) k (fun _ hb e=>h.apart hx (.inl e) hb)
end
end Go.Proofs.YtfdmbomlkpkegaaGreat
