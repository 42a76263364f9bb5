/- The statement LedgerPlays: true for every input. No condition. -/
import Derived.Test.YtfdmbomlkpkegaaGreatRows
import Derived.Test.YtfdmbomlkpkegaaGreatS42
import Derived.Test.YtfdmbomlkpkegaaGreatS16
set_option maxRecDepth 100000
set_option maxHeartbeats 8000000
set_option linter.all false
namespace Go.Proofs.YtfdmbomlkpkegaaGreat.ledgerPlaysDone
open Go Go.Proofs.YtfdmbomlkpkegaaGreat Go.ChangeShapes Go.WideShapes Go.ChangeAt Go.RowKit
theorem lifted (os:Os) (started:os.Started) (H:Type) (enc:TypeId × Value->H) :
  ReturnsInHanded {} Tryz.checked os 4 .any (Rows.ledgerPlaysSpec.pre6 enc Tryz.prog Tryz.f4 Rows.ledgerPlaysRow.domain false) (Rows.ledgerPlaysSpec.post enc Tryz.prog Tryz.f4 false true false false):=by
 refine returnsInHanded_of_change (C:=Tryz.checked) own started (by kernel_rfl) Tryz.func4
  (ChangeSpec.witness6 (enc:=enc) (C:=Tryz.checked) false ⟨#[],#[.int .u16 0,.int .u16 0,.int .u16 0,.slice none 0 0],[]⟩ 8 (by kernel_rfl) (by kernel_rfl) (by kernel_rfl) (by kernel_rfl)) ?_
 intro W base args ds gs before hval0 hW hcnd _
 letI:=Xl
 have hval:∀ (j:Nat) t v,Tryz.f4.params[j]?=some t->args[j]?=some v->Value.okWide Tryz.prog W .any base t v:=hval0
 have hW':=hW
 obtain ⟨p,q,hA0,hV,rfl,hfz,hnd⟩:=hW
 have hA:DataW.TrodAll enc Tryz.prog W 0 (fun _=>true) true Tryz.f4.params.toList args.toList ds p:=hA0
 rw [Tryz.params4] at hA hval
 obtain ⟨v0,vs0,d0,ds0,p0,q0,hargs,rfl,rfl,h0,r0⟩:=trodAll_cons hA
 obtain ⟨v1,vs1,d1,ds1,p1,q1,rfl,rfl,rfl,h1,r1⟩:=trodAll_cons r0
 obtain ⟨v2,vs2,d2,ds2,p2,q2,rfl,rfl,rfl,h2,r2⟩:=trodAll_cons r1
 obtain ⟨v3,vs3,d3,ds3,p3,q3,rfl,rfl,rfl,h3,r3⟩:=trodAll_cons r2
 obtain ⟨rfl,rfl,rfl⟩:=trodAll_nil r3
 obtain rfl:args=#[v0,v1,v2,v3]:=by cases args;simp_all
 obtain ⟨rfl,rfl⟩:=trodVars_none hV
 obtain ⟨a0,rfl,rfl,rfl,w0⟩:=open_int Tryz.underlying22 (hval 0 22 v0 rfl rfl) h0
 obtain ⟨a1,rfl,rfl,rfl,w1⟩:=open_int Tryz.underlying22 (hval 1 22 v1 rfl rfl) h1
 obtain ⟨a9,rfl,rfl,rfl,w9⟩:=open_int Tryz.underlying22 (hval 2 22 v2 rfl rfl) h2
 obtain ⟨a2,len2,cap2,rfl⟩:=okWide_slice Tryz.underlying23 (hval 3 23 v3 rfl rfl)
 have k2:=h3
 have lt2:∀ x∈p3,x.block<W.heap.size:=by obtain ⟨m,hm⟩:=k2;exact DataW.trod_lt m _ _ _ hm
 obtain ⟨acts2,b2⟩:∃ acts:List Ue,Ux W.heap.size W (.slice a2 len2 cap2) acts:=by
  obtain ⟨fuel,hf⟩:=h3
  exact acts16_of_trod rfl hf
 clear hA0 hval0
 have hw0:=Jt w0
 have hw1:=Jt w1
 have hw9:=Jt w9
 have h16:IntKind.u16.max=65535:=rfl
 obtain ⟨n0,rfl⟩:=Jw rfl w0
 obtain ⟨n1,rfl⟩:=Jw rfl w1
 obtain ⟨n9,rfl⟩:=Jw rfl w9
 refine (gplays_walk (Nat.zero_le _) n0 n1 n9 (by have:=hw9.2;omega) b2).mono fun e W' ⟨he,hk⟩=>?_
 subst he
 have bel:Below W.heap.size W W':=hk.below (fun _ h=>h.elim) (Nat.le_refl _)
 exact ⟨_,rfl,_,_,_,[],_,[],hW',trodAll_mk1 (shut_bool Tryz.underlying4 _),(trodAll_cons_mk (shut_int Tryz.underlying22 w0) (trodAll_cons_mk (shut_int Tryz.underlying22 w1) (trodAll_cons_mk (shut_int Tryz.underlying22 w9) (trodAll_cons_mk (Below.trod laidOut (by kernel_rfl) (of_decide_eq_true (by kernel_rfl)) k2 bel lt2) trodAll_mk0)))),rfl,bel.frame _,fun h=>by cases h⟩
theorem over:Rows.ledgerPlaysRow.holds Tryz.pinned (OpenSpec.ofChange Rows.ledgerPlaysSpec) :=
 OpenClaim.holds_of_wide 4 Tryz.f4 rfl rfl rfl rfl rfl rfl rfl ⟨rfl,rfl,rfl,rfl,rfl⟩ rfl rfl rfl rfl rfl (by kernel_rfl) Tryz.func4 (by kernel_rfl)
  (of_decide_eq_true (by kernel_rfl)) (by unfold Func.isWrapper;first | (rw [if_pos (by decide +kernel)];kernel_rfl) | (rw [if_neg (by decide +kernel)];exact ⟨rfl,rfl⟩))
  (fun os started H enc _=>lifted os started H enc)
theorem proved:Rows.LedgerPlaysSaid:=over
#print axioms proved
end Go.Proofs.YtfdmbomlkpkegaaGreat.ledgerPlaysDone
