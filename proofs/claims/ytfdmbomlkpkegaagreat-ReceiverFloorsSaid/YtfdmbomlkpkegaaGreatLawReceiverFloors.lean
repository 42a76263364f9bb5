/- The statement ReceiverFloors: true for every input. No condition. -/
import Derived.Test.YtfdmbomlkpkegaaGreatRows
import Derived.Test.YtfdmbomlkpkegaaGreatS44
set_option maxRecDepth 100000
set_option maxHeartbeats 8000000
set_option linter.all false
open Go renaming trodAll_cons_mk->WQ
open Go.ChangeShapes renaming trodAll_cons->WP
namespace Go.Proofs.YtfdmbomlkpkegaaGreat.receiverFloorsDone
open Go Go.Proofs.YtfdmbomlkpkegaaGreat Go.ChangeShapes Go.WideShapes Go.ChangeAt Go.RowKit
theorem lifted(os:Os)(g:os.Started)(H:Type)(enc:TypeId×Value->H) :
  ReturnsInHanded {} Tryz.checked os 8 .any (Rows.receiverFloorsSpec.pre6 enc Tryz.prog Tryz.f8 Rows.receiverFloorsRow.domain false) (Rows.receiverFloorsSpec.post enc Tryz.prog Tryz.f8 false true false false):=by
 refine returnsInHanded_of_change (C:=Tryz.checked) own g (by kernel_rfl) Tryz.func8
  (ChangeSpec.witness6 (enc:=enc) (C:=Tryz.checked) false ⟨#[],#[.int .u16 0,.int .u16 0,.slice none 0 0],[]⟩ 8 (by kernel_rfl) (by kernel_rfl) (by kernel_rfl) (by kernel_rfl)) ?_
 intro W base args ds gs z f J K _
 letI:=Xl
 have d:∀(j:Nat) t v,Tryz.f8.params[j]?=some t->args[j]?=some v->Value.okWide Tryz.prog W .any base t v:=f;have B:=J;obtain⟨p,q,o,hV,rfl,aA,aB⟩:=J;have I:DataW.TrodAll enc Tryz.prog W 0 (λ_=>true) true Tryz.f8.params.toList args.toList ds p:=o;rw[Tryz.params8]at I d;obtain⟨M,aC,d0,U,p0,q0,D,rfl,rfl,Y,r0⟩:=WP I;obtain⟨N,aD,d1,V,p1,q1,rfl,rfl,rfl,Z,r1⟩:=WP r0;obtain⟨O,aE,d2,X,p2,q2,rfl,rfl,rfl,G,r2⟩:=WP r1;obtain⟨rfl,rfl,rfl⟩:=trodAll_nil r2;obtain rfl:args=#[M,N,O]:=by cases args;simp_all
 obtain⟨rfl,rfl⟩:=trodVars_none hV;obtain⟨a0,rfl,rfl,rfl,P⟩:=open_int Tryz.underlying22 (d 0 22 M rfl rfl) Y;obtain⟨a1,rfl,rfl,rfl,Q⟩:=open_int Tryz.underlying22 (d 1 22 N rfl rfl) Z;obtain⟨S,w,n,rfl⟩:=okWide_slice Tryz.underlying83 (d 2 83 O rfl rfl);have L:=G;have E:∀x∈p2,x.block<W.heap.size:=by obtain⟨m,hm⟩:=L;exact DataW.trod_lt m _ _ _ hm
 obtain⟨A,T⟩:∃i:List Dj,Gu W.heap.size 13 (Cv W.heap.size W) (.slice S w n) i:=by obtain⟨F,hf⟩:=G;exact Dv rfl hf
 clear o f;obtain⟨n0,rfl⟩:=Jw rfl P;obtain⟨n1,rfl⟩:=Jw rfl Q;refine(Ig (Nat.zero_le _) n0 n1 T).mono λe R ⟨he,hk⟩=>?_;subst he;have k:Below W.heap.size W R:=hk.below (λ_ h=>h.elim) (Nat.le_refl _);exact⟨_,rfl,_,_,_,[],_,[],B,trodAll_mk1 (shut_bool Tryz.underlying4 _),(WQ (shut_int Tryz.underlying22 P) (WQ (shut_int Tryz.underlying22 Q) (WQ (Below.trod GK (by kernel_rfl) (of_decide_eq_true (by kernel_rfl)) L k E) trodAll_mk0))),rfl,k.frame _,λh=>by cases h⟩
theorem over:Rows.receiverFloorsRow.holds Tryz.pinned (OpenSpec.ofChange Rows.receiverFloorsSpec) :=
 OpenClaim.holds_of_wide 8 Tryz.f8 rfl rfl rfl rfl rfl rfl rfl ⟨rfl,rfl,rfl,rfl,rfl⟩ rfl rfl rfl rfl rfl (by kernel_rfl) Tryz.func8 (by kernel_rfl)
  (of_decide_eq_true (by kernel_rfl)) (by unfold Func.isWrapper;first|(rw[if_pos (by decide +kernel)];kernel_rfl)|(rw[if_neg (by decide +kernel)];exact⟨rfl,rfl⟩))
  (λos d H enc _=>lifted os d H enc)
theorem proved:Rows.ReceiverFloorsSaid:=over
#print axioms proved
end Go.Proofs.YtfdmbomlkpkegaaGreat.receiverFloorsDone
