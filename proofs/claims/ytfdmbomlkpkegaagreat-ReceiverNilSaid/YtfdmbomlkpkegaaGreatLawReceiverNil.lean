/- The statement ReceiverNil: true for every input. No condition. -/
import Derived.Test.YtfdmbomlkpkegaaGreatRows
import Derived.Test.YtfdmbomlkpkegaaGreatS41
import Derived.Test.YtfdmbomlkpkegaaGreatS16
set_option maxRecDepth 100000
set_option maxHeartbeats 8000000
set_option linter.all false
namespace Go.Proofs.YtfdmbomlkpkegaaGreat.receiverNilDone
open Go Go.Proofs.YtfdmbomlkpkegaaGreat Go.ChangeShapes Go.WideShapes Go.ChangeAt Go.RowKit
theorem lifted (os:Os) (started:os.Started) (H:Type) (enc:TypeId × Value->H) :
  ReturnsInHanded {} Tryz.checked os 5 .any (Rows.receiverNilSpec.pre6 enc Tryz.prog Tryz.f5 Rows.receiverNilRow.domain false) (Rows.receiverNilSpec.post enc Tryz.prog Tryz.f5 false true false false):=by
 refine returnsInHanded_of_change (C:=Tryz.checked) own started (by kernel_rfl) Tryz.func5
  (ChangeSpec.witness6 (enc:=enc) (C:=Tryz.checked) false ⟨#[],#[.agg #[.int .u8 0,.int .i64 0,.int .u64 0,.int .u64 0,.int .u64 0,.int .u64 0,.int .u64 0,.slice none 0 0,.slice none 0 0],.int .i64 0],[]⟩ 8 (by kernel_rfl) (by kernel_rfl) (by kernel_rfl) (by kernel_rfl)) ?_
 intro W base args ds gs before hval0 hW hcnd _
 letI:=Xl
 have hval:∀ (j:Nat) t v,Tryz.f5.params[j]?=some t->args[j]?=some v->Value.okWide Tryz.prog W .any base t v:=hval0
 have hW':=hW
 obtain ⟨p,q,hA0,hV,rfl,hfz,hnd⟩:=hW
 have hA:DataW.TrodAll enc Tryz.prog W 0 (fun _=>true) true Tryz.f5.params.toList args.toList ds p:=hA0
 rw [Tryz.params5] at hA hval
 obtain ⟨v0,vs0,d0,ds0,p0,q0,hargs,rfl,rfl,h0,r0⟩:=trodAll_cons hA
 obtain ⟨v1,vs1,d1,ds1,p1,q1,rfl,rfl,rfl,h1,r1⟩:=trodAll_cons r0
 obtain ⟨rfl,rfl,rfl⟩:=trodAll_nil r1
 obtain rfl:args=#[v0,v1]:=by cases args;simp_all
 obtain ⟨rfl,rfl⟩:=trodVars_none hV
 obtain ⟨cs,rfl,hsz⟩:=okWide_struct Tryz.underlying69 (hval 0 69 v0 rfl rfl)
 obtain ⟨a1,rfl,rfl,rfl,w1⟩:=open_int Tryz.underlying3 (hval 1 3 v1 rfl rfl) h1
 have k2:=h0
 have lt2:∀ x∈p0,x.block<W.heap.size:=by obtain ⟨m,hm⟩:=k2;exact DataW.trod_lt m _ _ _ hm
 obtain ⟨f,ro,io,rn,rc,inn,ic,hcs⟩:∃ (f:FrmS) (ro io:Option Addr) (rn rc inn ic:Nat),cs.toList=(f.cells (.slice ro rn rc) (.slice io inn ic)).toList:=by
  obtain ⟨fuel,hf⟩:=h0
  exact frm_of_trod hf
 have hce:cs=f.cells (.slice ro rn rc) (.slice io inn ic):=by
  apply Array.ext'
  exact hcs
 subst hce
 clear hA0 hval0
 refine (rnil_walk (Nat.zero_le _) f ro io rn rc inn ic a1).mono fun e W' ⟨he,hk⟩=>?_
 subst he
 have bel:Below W.heap.size W W':=hk.below (fun _ h=>h.elim) (Nat.le_refl _)
 exact ⟨_,rfl,_,_,_,[],_,[],hW',trodAll_mk1 (shut_bool Tryz.underlying4 _),(trodAll_cons_mk (Below.trod laidOut (by kernel_rfl) (of_decide_eq_true (by kernel_rfl)) k2 bel lt2) (trodAll_cons_mk (shut_int Tryz.underlying3 w1) trodAll_mk0)),rfl,bel.frame _,fun h=>by cases h⟩
theorem over:Rows.receiverNilRow.holds Tryz.pinned (OpenSpec.ofChange Rows.receiverNilSpec) :=
 OpenClaim.holds_of_wide 5 Tryz.f5 rfl rfl rfl rfl rfl rfl rfl ⟨rfl,rfl,rfl,rfl,rfl⟩ rfl rfl rfl rfl rfl (by kernel_rfl) Tryz.func5 (by kernel_rfl)
  (of_decide_eq_true (by kernel_rfl)) (by unfold Func.isWrapper;first | (rw [if_pos (by decide +kernel)];kernel_rfl) | (rw [if_neg (by decide +kernel)];exact ⟨rfl,rfl⟩))
  (fun os started H enc _=>lifted os started H enc)
theorem proved:Rows.ReceiverNilSaid:=over
#print axioms proved
end Go.Proofs.YtfdmbomlkpkegaaGreat.receiverNilDone
