/- Lemmas. -/
import Derived.Test.YtfdmbomlkpkegaaGreatS9
import Derived.OwnWalk
set_option maxRecDepth 100000
set_option maxHeartbeats 8000000
set_option linter.all false
set_option autoImplicit true
set_option relaxedAutoImplicit true
namespace Go.Proofs.YtfdmbomlkpkegaaGreat
open Go Go.RowKit Go.Dr
def M3 (p n s:Nat)(wv:Value)(q:Nat)(lv:Value):Nat->Prop:=λb=>foot p n s wv b\/b=q\/lv.ownBlock=some b
def M9 [bn:Ib](base:Nat)(w:World)(p q:Nat)(d:Qr)(x:Qn)(G:Nat->Prop):Prop :=
 ∃n s wv lv,Qo base w p n s wv d/\Zs base w q lv x/\G=M3 p n s wv q lv
section
variable [bn:Ib]{base:Nat}{w w':World}{p n s q:Nat}{wv lv:Value}{d:Qr}{x:Qn}
theorem Zs.kind(h:Zs base w q lv x)(f:b=q\/lv.ownBlock=some b):base<=b/\∃cs t,w.heap[b]?=some (.cells cs t (0,0))/\(t=119\/t=244):=by
 rcases f with rfl|f
 ·exact⟨h.qb,_,_,h.blk,.inl rfl⟩
 ·obtain⟨i,g,j⟩:=h.calls.kind b f;exact⟨i,_,_,j,.inr rfl⟩
theorem Zs.foot(h:Zs base w q lv x):Uz base w (λb=>b=q\/lv.ownBlock=some b):=by intro b j;obtain⟨i,cs,t,g,f⟩:=h.kind j;exact⟨i,Qt g,λcs fr e=>by rw[g]at e;simp at e;obtain⟨_,rfl,_⟩:=e;rcases f with f|f<;>simp at f⟩
theorem Qo.apart(h:Qo base w p n s wv d)(j:Zs base w q lv x)(g:b=q\/lv.ownBlock=some b):¬Go.Proofs.YtfdmbomlkpkegaaGreat.foot p n s wv b:=λi=>by
 obtain⟨_,cs,t,k,f⟩:=j.kind g
 rcases h.foot_kind i k with rfl|rfl<;>rcases f with f|f<;>simp at f
theorem Zs.byD(f:Zs base w q lv x)(h:Qo base w p n s wv d)(k:Xy (Go.Proofs.YtfdmbomlkpkegaaGreat.foot p n s wv) w w'):Zs base w' q lv x :=
 ⟨k.heap f.blk (h.apart f (.inl rfl)),f.calls.keep h.foot_ok k (λ_ g=>h.apart f (.inr g)),f.qb⟩
theorem Qo.byX(h:Qo base w p n s wv d)(g:Zs base w q lv x)(k:Xy (·=q) w w'):Qo base w' p n s wv d :=
 h.keep (F:=(·=q)) (λb f=>g.foot b (.inl f)) k (λ_ f e=>h.apart g (.inl e) f)
end
end Go.Proofs.YtfdmbomlkpkegaaGreat
