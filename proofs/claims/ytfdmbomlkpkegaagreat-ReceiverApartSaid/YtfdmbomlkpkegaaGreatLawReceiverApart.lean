/- The statement ReceiverApart: true for every input. No condition. -/
import Derived.Test.YtfdmbomlkpkegaaGreatRows
import Derived.Test.YtfdmbomlkpkegaaGreatS43
set_option maxRecDepth 100000
set_option maxHeartbeats 8000000
set_option linter.all false
open Go renaming trodAll_cons_mk->WQ
open Go.ChangeShapes renaming trodAll_cons->WP
namespace Go.Proofs.YtfdmbomlkpkegaaGreat.receiverApartDone
open Go Go.Proofs.YtfdmbomlkpkegaaGreat Go.ChangeShapes Go.WideShapes Go.ChangeAt Go.RowKit
theorem lifted(os:Os)(g:os.Started)(H:Type)(enc:TypeId×Value->H) :
  ReturnsInHanded {} Tryz.checked os 7 .any (Rows.receiverApartSpec.pre6 enc Tryz.prog Tryz.f7 Rows.receiverApartRow.domain false) (Rows.receiverApartSpec.post enc Tryz.prog Tryz.f7 false true false false):=by
 refine returnsInHanded_of_change (C:=Tryz.checked) own g (by kernel_rfl) Tryz.func7
  (ChangeSpec.witness6 (enc:=enc) (C:=Tryz.checked) false ⟨#[],#[.int .u16 0,.int .u16 0,.slice none 0 0,.int .u8 0],[]⟩ 8 (by kernel_rfl) (by kernel_rfl) (by kernel_rfl) (by kernel_rfl)) ?_
 intro W base args ds gs z f J K _
 letI:=Xl
 have d:∀(j:Nat) t v,Tryz.f7.params[j]?=some t->args[j]?=some v->Value.okWide Tryz.prog W .any base t v:=f;have B:=J;obtain⟨p,q,o,hV,rfl,aB,aC⟩:=J;have I:DataW.TrodAll enc Tryz.prog W 0 (λ_=>true) true Tryz.f7.params.toList args.toList ds p:=o;rw[Tryz.params7]at I d;obtain⟨M,aD,d0,X,p0,q0,D,rfl,rfl,h0,r0⟩:=WP I;obtain⟨N,aE,d1,Y,p1,q1,rfl,rfl,rfl,h1,r1⟩:=WP r0;obtain⟨O,aF,d2,Z,p2,q2,rfl,rfl,rfl,G,r2⟩:=WP r1;obtain⟨P,aG,d3,aA,p3,q3,rfl,rfl,rfl,h3,r3⟩:=WP r2;obtain⟨rfl,rfl,rfl⟩:=trodAll_nil r3;obtain rfl:args=#[M,N,O,P]:=by cases args;simp_all
 obtain⟨rfl,rfl⟩:=trodVars_none hV;obtain⟨a0,rfl,rfl,rfl,Q⟩:=open_int Tryz.underlying22 (d 0 22 M rfl rfl) h0;obtain⟨a1,rfl,rfl,rfl,R⟩:=open_int Tryz.underlying22 (d 1 22 N rfl rfl) h1;obtain⟨U,w,n,rfl⟩:=okWide_slice Tryz.underlying83 (d 2 83 O rfl rfl);obtain⟨a3,rfl,rfl,rfl,S⟩:=open_int Tryz.underlying5 (d 3 5 P rfl rfl) h3;have L:=G;have E:∀x∈p2,x.block<W.heap.size:=by obtain⟨m,hm⟩:=L;exact DataW.trod_lt m _ _ _ hm
 obtain⟨A,V⟩:∃i:List Dj,Gu W.heap.size 13 (Cv W.heap.size W) (.slice U w n) i:=by obtain⟨F,hf⟩:=G;exact Dv rfl hf
 clear o f;obtain⟨n0,rfl⟩:=Jw rfl Q;obtain⟨n1,rfl⟩:=Jw rfl R;obtain⟨n3,rfl⟩:=Jw rfl S;refine(ZW (Nat.zero_le _) n0 n1 n3 V).mono λe T ⟨he,hk⟩=>?_;subst he;have k:Below W.heap.size W T:=hk.below (λ_ h=>h.elim) (Nat.le_refl _);exact⟨_,rfl,_,_,_,[],_,[],B,trodAll_mk1 (shut_bool Tryz.underlying4 _),(WQ (shut_int Tryz.underlying22 Q) (WQ (shut_int Tryz.underlying22 R) (WQ (Below.trod GK (by kernel_rfl) (of_decide_eq_true (by kernel_rfl)) L k E) (WQ (shut_int Tryz.underlying5 S) trodAll_mk0)))),rfl,k.frame _,λh=>by cases h⟩
theorem over:Rows.receiverApartRow.holds Tryz.pinned (OpenSpec.ofChange Rows.receiverApartSpec) :=
 OpenClaim.holds_of_wide 7 Tryz.f7 rfl rfl rfl rfl rfl rfl rfl ⟨rfl,rfl,rfl,rfl,rfl⟩ rfl rfl rfl rfl rfl (by kernel_rfl) Tryz.func7 (by kernel_rfl)
  (of_decide_eq_true (by kernel_rfl)) (by unfold Func.isWrapper;first|(rw[if_pos (by decide +kernel)];kernel_rfl)|(rw[if_neg (by decide +kernel)];exact⟨rfl,rfl⟩))
  (λos d H enc _=>lifted os d H enc)
theorem proved:Rows.ReceiverApartSaid:=over
#print axioms proved
end Go.Proofs.YtfdmbomlkpkegaaGreat.receiverApartDone
