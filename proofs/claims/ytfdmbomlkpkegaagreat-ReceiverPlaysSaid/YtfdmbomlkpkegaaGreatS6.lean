/- Lemmas. -/
import Derived.Test.YtfdmbomlkpkegaaGreatS5
set_option maxRecDepth 100000
set_option maxHeartbeats 8000000
set_option linter.all false
set_option autoImplicit true
set_option relaxedAutoImplicit true
open Go renaming Calls->DJ,Value->AM,World->AC,bodyPost_ret->FC,results->FD,wraps_u64->EC
open Go.Instr renaming slice->EN
open Go.Lib renaming hid->BX
open Go.RowKit renaming intOf->C0
open Go.World renaming size_alloc->FE
open Int renaming toNat_natCast->EO
open List renaming append_nil->B5,getElem?_eq_getElem->BY,length_append->BO,length_singleton->FF,mem_of_getElem?->FB,take_of_length_le->DU,take_succ_eq_append_getElem->BM
open Nat renaming le_refl->BE,le_trans->BF,zero_le->BW
open Option renaming none->AI,some->AF
namespace Go.Proofs.YtfdmbomlkpkegaaGreat
section
open Go Go.RowKit Go.Dr
theorem Zy.sub(h:Zy w (.slice ao n cap) l)(D:lo<=hi)(E:hi<=n):Zy w (sliced ao lo hi cap 2) ((l.take hi).drop lo):=by
 obtain⟨p,f,m,F,G,q,z⟩:=h;simp only[Value.slice.injEq]at m;obtain⟨rfl,rfl,rfl⟩:=m;have k:((l.take hi).drop lo).length=hi-lo:=by simp;omega
 unfold sliced;by_cases j:cap=lo
 ·rw[if_pos j];exact⟨ao,cap-lo,by rw[k],by omega,by omega,λ_=>by omega,λH=>by omega⟩
 ·rw[if_neg j];cases ao with
  | none=>exact absurd (q rfl) (by omega)
  | some C =>
   obtain⟨g,o,e,A,B⟩:=z (by omega);simp only[Option.some.injEq]at e;subst e;refine⟨AF ((⟨g,o,AI⟩:Addr).add (lo*2)),cap-lo,by rw[k];rfl,by omega,by omega,λh=>(by cases h),λ_=>⟨g,o+lo*2,by simp[Addr.add],A,λi x d=>?_⟩⟩;rw[List.getElem?_drop,List.getElem?_take]at d
   split at d
   ·have:=B (lo+i) x d;rw[show o+(lo+i)*2=o+lo*2+i*2 by omega]at this;exact this
   ·cases d
theorem QE:Tryz.prog.underlying 67=AF (.slice (Tryz.prog.elem 67)):=by kernel_rfl
theorem ZG(w:AC):(sizeOf (Tryz.prog.elem 67)).run Tryz.prog w=.ok 2 w:=by kernel_rfl
theorem J6(ao:Option Addr)(n cap hi:Nat)(d:hi<=n)(f:n<=cap) :
  ∃o c,(∀w,(EN 67 (.slice ao n cap) AI (AF (.int .i64 (hi:Int))) AI).run Tryz.prog w=.ok (.slice o hi c) w) /\
   ∀w l,Zy w (.slice ao n cap) l->Zy w (.slice o hi c) (l.take hi):=by
 refine⟨_,_,λw=>?_,λw l h=>h.sub (BW hi) d⟩;rw[run_slice_h w 67 ao n cap QE .i64 _ (by omega) (by omega),EO,ZG];rfl
theorem J7(ao:Option Addr)(n cap lo:Nat)(f:lo<=n)(d:n<=cap) :
  ∃o c,(∀w,(EN 67 (.slice ao n cap) (AF (.int .i64 (lo:Int))) AI AI).run Tryz.prog w=.ok (.slice o (n-lo) c) w) /\
   ∀w l,Zy w (.slice ao n cap) l->Zy w (.slice o (n-lo) c) ((l.take n).drop lo):=by
 refine⟨_,_,λw=>?_,λw l h=>h.sub f (BE _)⟩;rw[run_slice_l w 67 ao n cap QE .i64 _ (by omega) (by omega),EO,ZG];rfl
theorem YF(r:Xc)(l:List Xc)(f t:Nat):Vu (r::l) f t=if r.1-1<=t then Vu l (min f r.1) (max t r.2)else(f,t)::r::l:=rfl
theorem Bl:∀(l:List Xc) (f t:Nat),(Vu l f t).length<=l.length+1
 | [],f,t=>by simp[Vu]
 | r::l,f,t=>by
  unfold Vu
  split
  ·have:=Bl l (min f r.1) (max t r.2);simp;omega
  ·simp
theorem UR(h:Zy w v l)(hs:Uk l)(f t:Nat)(hl:l.length<=268435456)(aV:f<=t)(ht:t<18446744073709551616) :
  DJ Tryz.prog 170 #[.agg #[v],.int .u64 f,.int .u64 t] w λe w'=>∃v',e=.returned (.agg #[v'])/\Zy w' v' (Yq l f t)/\Xy No w w':=by
 obtain⟨ao,cap,rfl,hc,F⟩:=h.form;obtain⟨W,hW⟩:∃W,W=(w.alloc (.cells #[.slice ao l.length cap] 90)).alloc (.cells #[.slice AI 0 0] 90):=⟨_,rfl⟩;have aR:(w.alloc (.cells #[.slice ao l.length cap] 90)).heap.size=w.heap.size+1:=by simp
 have kW:Xy No w W:=by rw[hW];exact((Xy.refl _ _).alloc _).alloc _
 have hA:W.heap[w.heap.size]?=AF (.cells #[.slice ao l.length cap] 90 (0,0)):=by rw[hW];exact((Xy.refl No _).alloc _).heap (Qy _ _) id
 have U:W.heap[w.heap.size+1]?=AF (.cells #[.slice AI 0 0] 90 (0,0)):=by rw[hW,<- aR];exact Qy _ _
 have hf:=Lg (h.no kW) hs (f-1) (by omega);obtain⟨i,hi⟩:∃i,i=Yr l (f-1):=⟨_,rfl⟩;have aH:=Hd l (f-1);have aQ:Yq l f t=l.take i++Vu (l.drop i) f t:=by unfold Yq;rw[if_neg (by omega),hi]
 rw[<- hi]at hf aH;have c0:=Qq hA 0;simp at c0;have I:¬(t:Int)<(f:Int):=by omega
 obtain⟨q,hq⟩:∃q:Nat,q=min f 1:=⟨_,rfl⟩;have aD:(if(1:Int)<(f:Int)then(1:Int)else(f:Int))=(q:Int):=by split<;>omega
 have aI:min (f:Int) 1=(q:Int):=by omega
 have aS:IntKind.u64.wrap ((f:Int)-(q:Int))=((f-1:Nat):Int):=by rw[EC _ (by omega) (by omega)];omega
 clear hq;have C:=BX (A10 kW U h hs aQ aH F hl ht hc);clear hA U kW h hs aQ aH hi aR F hl ht aV hc;go_enter Tryz.func170,Tryz.ntmps170;go_wp2_with fail;rw[<- hW];clear hW;go_wp2_with fail;refine hf.mono ?_;rintro e w1⟨rfl,k1⟩;have c1:=k1.cell c0 id;clear hf c0;go_wp2_with fail;clear aD aS I;go_loopw [1,2,8] (λfv tv kv wr=>∃(E B k:Nat),fv=.int .u64 E/\tv=.int .u64 B/\kv=.int .i64 k/\k<=l.length/\B<18446744073709551616/\Vu (l.drop i) f t=Vu (l.drop k) E B/\Xy No w1 wr) (λ_ _ kv _=>l.length-(C0 kv).toNat);case atStart=>exact⟨f,t,i,rfl,rfl,rfl,C.out.qf,C.out.qi,rfl,Xy.refl _ _⟩
 case round =>
  obtain⟨E,B,k,rfl,rfl,rfl,hk,aL,H,kr⟩:=hrel;have c2:=kr.cell c1 id;by_cases I:k<l.length
  ·have J:l[k]?=AF l[k]:=BY I;obtain⟨r,aC⟩:∃r,r=l[k]:=⟨_,rfl⟩;rw[<- aC]at J;obtain⟨aO,aP⟩:=C.out.2.2.2.1.run r (FB J);have A:l.drop k=r::l.drop (k+1):=by rw[List.drop_eq_getElem_cons I,aC]
   obtain⟨g,o,rfl,S⟩:=C.out.2.2.1.row (λe=>by rw[e]at I;simp at I);have T:=(C.out.1.then k1).then kr;have r0:=T.cell (S k r J).1 id;have r1:=T.cell (S k r J).2 id;obtain⟨q,hq⟩:∃q:Nat,q=min r.1 1:=⟨_,rfl⟩;have aD:(if(1:Int)<(r.1:Int)then(1:Int)else(r.1:Int))=(q:Int):=by split<;>omega
   have aI:min (r.1:Int) 1=(q:Int):=by omega
   obtain⟨d,hd⟩:∃d,d=r.1-1:=⟨_,rfl⟩;have aS:IntKind.u64.wrap ((r.1:Int)-(q:Int))=(d:Int):=by rw[EC _ (by omega) (by omega)];omega
   have aW:(k:Int)<(l.length:Int):=by omega
   have aZ:(l.length:Int)<=268435456:=by have:=C.out.qh;omega
   rw[A,YF]at H;by_cases hc:r.1-1<=B
   ·rw[if_pos hc]at H;have aU:(d:Int)<=(B:Int):=by omega
    obtain⟨f2,aG⟩:∃f2,f2=min E r.1:=⟨_,rfl⟩;obtain⟨t2,aM⟩:∃t2,t2=max B r.2:=⟨_,rfl⟩;have ab:(if(r.1:Int)<(E:Int)then(r.1:Int)else(E:Int))=(f2:Int):=by split<;>omega
    have ac:(if(B:Int)<(r.2:Int)then(r.2:Int)else(B:Int))=(t2:Int):=by split<;>omega
    rw[<- aG,<- aM]at H;have O:=BX (A6 H kr I (show t2<18446744073709551616 by omega) aG aM);clear hd hq aG aM H kr S J aC A T hc aO aP aL hk I;go_wp2_with fail;go_quiet (fail);go_wp2_with fail;go_quiet (fail);go_wp2_with fail;go_roundw;case rel=>exact⟨f2,t2,k+1,by have:=O.out.qe;congr 1;try(split<;>omega),by have:=O.out.rf;congr 1;try(split<;>omega),by congr 1,by have:=O.out.qc;omega,O.out.qd,O.out.1,O.out.2.1.drewN _⟩
    case measure=>have:=O.out.qc;simp[C0];omega
   ·rw[if_neg hc]at H;have aU:¬(d:Int)<=(B:Int):=by omega
    have M:Yq l f t=l.take i++((E,B)::l.drop k):=by rw[C.out.qe,H,A]
    have O:=BX (A3 M kr hk);clear hd hq H kr S J aC A T hc aO aP aL hk I M;go_wp2_with fail;go_quiet (fail);go_wp2_with fail;have kd:=λn=>(O.out.2.1.drewN n).drew;obtain⟨Q,p,aJ,Y⟩:=J6 (AF ⟨g,o,AI⟩) l.length cap i C.out.qf C.out.rj;obtain⟨R,z,aK,Z⟩:=J7 (AF ⟨g,o,AI⟩) l.length cap k O.out.2.2 C.out.rj;refine Ql (λw'=>Xy No w1 w') [0,1,2,3,4,5,6,8,9,10,11] [7,12,13] [14,15] (by kernel_rfl) (by kernel_rfl) (λ_ _ _ _ _ h=>h) (kd _) ?_;iterate 11(refine Qk (v:=?_) rfl rfl rfl ?_ ?_;rotate_left;focus(
     intro w' hS;have aT:=hS.cell c1 id;go_simp
     try with_reducible rfl))
    have kX:=kd nq;refine Qj (Qx rfl rfl (λK L=>?_));generalize (wr.drewN nq).drew=X at kX⊢;go_simp;have k7:=kX.alloc (.cells #[.int .u64 E,.int .u64 B] 96);refine L _ _ k7 ?_;clear L K;refine Qx rfl rfl (λK L=>?_);go_simp;have k8:=k7.alloc (.cells #[.slice Q i p,.slice (AF ⟨X.heap.size,0,AI⟩) 1 1,.slice R (l.length-k) z] 67);have aB:=(C.out.1.then k1).then k8;have V:Wz ((X.alloc (.cells #[.int .u64 E,.int .u64 B] 96)).alloc (.cells #[.slice Q i p,.slice (AF ⟨X.heap.size,0,AI⟩) 1 1,.slice R (l.length-k) z] 67))
      (.slice (AF ⟨X.heap.size+1,0,AI⟩) 3 3) [l.take i,[(E,B)],l.drop k]:=by
     have P:((X.alloc (.cells #[.int .u64 E,.int .u64 B] 96)).alloc (.cells #[.slice Q i p,.slice (AF ⟨X.heap.size,0,AI⟩) 1 1,.slice R (l.length-k) z] 67)).heap[X.heap.size]?=AF (.cells #[.int .u64 E,.int .u64 B] 96 (0,0)) :=
      ((Xy.refl No _).alloc _).heap (Qy _ _) id
     have aE:((X.alloc (.cells #[.int .u64 E,.int .u64 B] 96)).alloc (.cells #[.slice Q i p,.slice (AF ⟨X.heap.size,0,AI⟩) 1 1,.slice R (l.length-k) z] 67)).heap[X.heap.size+1]?=AF (.cells #[.slice Q i p,.slice (AF ⟨X.heap.size,0,AI⟩) 1 1,.slice R (l.length-k) z] 67 (0,0)):=by have:=Qy (X.alloc (.cells #[.int .u64 E,.int .u64 B] 96)) (.cells #[.slice Q i p,.slice (AF ⟨X.heap.size,0,AI⟩) 1 1,.slice R (l.length-k) z] 67);simpa using this
     refine⟨[.slice Q i p,.slice (AF ⟨X.heap.size,0,AI⟩) 1 1,.slice R (l.length-k) z],rfl,λj u m D F=>?_,X.heap.size+1,3,rfl,BE _,by decide,λj u D=>?_⟩
     ·match j,D,F with
      | 0,D,F =>
       simp at D F;subst D F;exact Y _ _ (C.out.2.2.1.no aB)
      | 1,D,F =>
       simp at D F;subst D F;refine⟨AF ⟨X.heap.size,0,AI⟩,1,rfl,BE _,by decide,λe=>(by cases e),λ_=>⟨X.heap.size,0,rfl,⟨_,_,P⟩,λi r J=>?_⟩⟩
       match i,J with
       | 0,J =>
        simp at J;subst J;rw[Qq P,Qq P];exact⟨rfl,rfl⟩
      | 2,D,F =>
       simp at D F;subst D F;have:=Z _ _ (C.out.2.2.1.no aB);rw[DU (BE _)]at this;exact this
     ·rw[Qq aE];simpa using D
    have G:=Pu V (by have:=C.out.qh;simp;omega);have aA:[l.take i,[(E,B)],l.drop k].flatten=Yq l f t:=by rw[O.out.1];simp
    rw[aA]at G;clear V aA;refine L _ _ k8 ?_;clear L K;refine Qx rfl rfl (λK L=>?_);go_simp;refine G.mono ?_;rintro e w9⟨v9,rfl,N,k9⟩;obtain⟨o9,c9,rfl,_,_⟩:=N.form;refine L _ _ (k8.then k9) ?_;clear L K;have aF:=(((C.out.1.then k1).then k8).then k9);have U:=(k1.then (k8.then k9)).heap C.out.2.1 id;refine Qh (Qu rfl (Qu rfl (Qm ?_)));have b0:=Qq U 0;have fb:=Qg U;simp at b0;clear aJ aK G Y Z;go_wp2;have hZ:=Qz (i:=0) (u:=.slice o9 (Yq l f t).length c9) U;have kZ:=Qd (g:=w.heap.size+1) (i:=0) w9 (.slice o9 (Yq l f t).length c9);have z0:=Qq hZ 0;simp at z0;refine FC (v:=.agg #[.slice o9 (Yq l f t).length c9]) (by simp[FD,Tryz.results170,go_sem,z0]) rfl ?_;exact⟨_,rfl,N.runs.keep (λb hb J=>by obtain⟨cs,fr,e⟩:=J;rw[show b=w.heap.size+1 from hb,U]at e;simp at e) kZ,aF.trans kZ (λx hx e=>by omega)⟩
  ·have aN:k=l.length:=by omega
   have aW:¬(k:Int)<(l.length:Int):=by omega
   have aY:decide (k<l.length)=false:=by simp;omega
   have aX:decide ((k:Int)<(l.length:Int))=false:=by simp;omega
   have A:l.drop k=[]:=by rw[aN,List.drop_length]
   have M:Yq l f t=l.take i++((E,B)::l.drop k):=by rw[C.out.qe,H,A];rfl
   have O:=BX (A3 M kr hk);clear H kr aN A aL hk I M;go_wp2_with fail;go_quiet (fail);go_wp2_with fail;have kd:=λn=>(O.out.2.1.drewN n).drew;obtain⟨Q,p,aJ,Y⟩:=J6 ao l.length cap i C.out.qf C.out.rj;obtain⟨R,z,aK,Z⟩:=J7 ao l.length cap k O.out.2.2 C.out.rj;refine Ql (λw'=>Xy No w1 w') [0,1,2,3,4,5,6,8,9,10,11] [7,12,13] [14,15] (by kernel_rfl) (by kernel_rfl) (λ_ _ _ _ _ h=>h) (kd _) ?_;iterate 11(refine Qk (v:=?_) rfl rfl rfl ?_ ?_;rotate_left;focus(
    intro w' hS;have aT:=hS.cell c1 id;go_simp
    try with_reducible rfl))
   have kX:=kd nq;refine Qj (Qx rfl rfl (λK L=>?_));generalize (wr.drewN nq).drew=X at kX⊢;go_simp;have k7:=kX.alloc (.cells #[.int .u64 E,.int .u64 B] 96);refine L _ _ k7 ?_;clear L K;refine Qx rfl rfl (λK L=>?_);go_simp;have k8:=k7.alloc (.cells #[.slice Q i p,.slice (AF ⟨X.heap.size,0,AI⟩) 1 1,.slice R (l.length-k) z] 67);have aB:=(C.out.1.then k1).then k8;have V:Wz ((X.alloc (.cells #[.int .u64 E,.int .u64 B] 96)).alloc (.cells #[.slice Q i p,.slice (AF ⟨X.heap.size,0,AI⟩) 1 1,.slice R (l.length-k) z] 67))
     (.slice (AF ⟨X.heap.size+1,0,AI⟩) 3 3) [l.take i,[(E,B)],l.drop k]:=by
    have P:((X.alloc (.cells #[.int .u64 E,.int .u64 B] 96)).alloc (.cells #[.slice Q i p,.slice (AF ⟨X.heap.size,0,AI⟩) 1 1,.slice R (l.length-k) z] 67)).heap[X.heap.size]?=AF (.cells #[.int .u64 E,.int .u64 B] 96 (0,0)) :=
     ((Xy.refl No _).alloc _).heap (Qy _ _) id
    have aE:((X.alloc (.cells #[.int .u64 E,.int .u64 B] 96)).alloc (.cells #[.slice Q i p,.slice (AF ⟨X.heap.size,0,AI⟩) 1 1,.slice R (l.length-k) z] 67)).heap[X.heap.size+1]?=AF (.cells #[.slice Q i p,.slice (AF ⟨X.heap.size,0,AI⟩) 1 1,.slice R (l.length-k) z] 67 (0,0)):=by have:=Qy (X.alloc (.cells #[.int .u64 E,.int .u64 B] 96)) (.cells #[.slice Q i p,.slice (AF ⟨X.heap.size,0,AI⟩) 1 1,.slice R (l.length-k) z] 67);simpa using this
    refine⟨[.slice Q i p,.slice (AF ⟨X.heap.size,0,AI⟩) 1 1,.slice R (l.length-k) z],rfl,λj u m D F=>?_,X.heap.size+1,3,rfl,BE _,by decide,λj u D=>?_⟩
    ·match j,D,F with
     | 0,D,F =>
      simp at D F;subst D F;exact Y _ _ (C.out.2.2.1.no aB)
     | 1,D,F =>
      simp at D F;subst D F;refine⟨AF ⟨X.heap.size,0,AI⟩,1,rfl,BE _,by decide,λe=>(by cases e),λ_=>⟨X.heap.size,0,rfl,⟨_,_,P⟩,λi r J=>?_⟩⟩
      match i,J with
      | 0,J =>
       simp at J;subst J;rw[Qq P,Qq P];exact⟨rfl,rfl⟩
     | 2,D,F =>
      simp at D F;subst D F;have:=Z _ _ (C.out.2.2.1.no aB);rw[DU (BE _)]at this;exact this
    ·rw[Qq aE];simpa using D
   have G:=Pu V (by have:=C.out.qh;simp;omega);have aA:[l.take i,[(E,B)],l.drop k].flatten=Yq l f t:=by rw[O.out.1];simp
   rw[aA]at G;clear V aA;refine L _ _ k8 ?_;clear L K;refine Qx rfl rfl (λK L=>?_);go_simp;refine G.mono ?_;rintro e w9⟨v9,rfl,N,k9⟩;obtain⟨o9,c9,rfl,_,_⟩:=N.form;refine L _ _ (k8.then k9) ?_;clear L K;have aF:=(((C.out.1.then k1).then k8).then k9);have U:=(k1.then (k8.then k9)).heap C.out.2.1 id;refine Qh (Qu rfl (Qu rfl (Qm ?_)));have b0:=Qq U 0;have fb:=Qg U;simp at b0;clear aJ aK G Y Z;go_wp2;have hZ:=Qz (i:=0) (u:=.slice o9 (Yq l f t).length c9) U;have kZ:=Qd (g:=w.heap.size+1) (i:=0) w9 (.slice o9 (Yq l f t).length c9);have z0:=Qq hZ 0;simp at z0;refine FC (v:=.agg #[.slice o9 (Yq l f t).length c9]) (by simp[FD,Tryz.results170,go_sem,z0]) rfl ?_;exact⟨_,rfl,N.runs.keep (λb hb J=>by obtain⟨cs,fr,e⟩:=J;rw[show b=w.heap.size+1 from hb,U]at e;simp at e) kZ,aF.trans kZ (λx hx e=>by omega)⟩
end
section
open Go Go.RowKit
theorem R1(h:Zy w v l)(E:Uk l)(n:Nat)(C:l.length<=268435456)(D:n<18446744073709551616) :
  DJ Tryz.prog 117 #[.agg #[v],.int .u64 n] w λe m=>∃z,e=.returned (.agg #[z])/\Zy m z (Yq l n n)/\Xy No w m:=by
 obtain⟨ao,cap,rfl,M,O⟩:=h.form;obtain⟨W,f⟩:∃W,W=(w.alloc (.cells #[.slice ao l.length cap] 90)).alloc (.cells #[.slice AI 0 0] 90):=⟨_,rfl⟩;have j:(w.alloc (.cells #[.slice ao l.length cap] 90)).heap.size=w.heap.size+1:=by simp
 have p:Xy No w W:=by rw[f];exact((Xy.refl _ _).alloc _).alloc _
 have B:W.heap[w.heap.size]?=AF (.cells #[.slice ao l.length cap] 90 (0,0)):=by rw[f];exact((Xy.refl No _).alloc _).heap (Qy _ _) id
 have d:W.heap[w.heap.size+1]?=AF (.cells #[.slice AI 0 0] 90 (0,0)):=by rw[f,<- j];exact Qy _ _
 have N:=UR (h.no p) E n n C (BE _) D;have J:=Qq B 0;simp at J;have A:=BX (A2 p d);clear B p h E C M O D d j;go_enter Tryz.func117,Tryz.ntmps117;go_wp2_with fail;rw[<- f];clear f;go_wp2_with fail;refine N.mono ?_;rintro e m⟨z,rfl,k,F⟩;obtain⟨q,o,rfl,_,_⟩:=k.form;have d:=F.heap A.out.2 id;have I:=Qq d 0;have P:=Qg d;simp at I;go_wp2;have K:=Qz (i:=0) (u:=.slice q (Yq l n n).length o) d;have G:=Qd (g:=w.heap.size+1) (i:=0) m (.slice q (Yq l n n).length o);have H:=Qq K 0;simp at H;refine FC (v:=.agg #[.slice q (Yq l n n).length o]) (by simp[FD,Tryz.results117,go_sem,H]) rfl ?_;exact⟨_,rfl,k.keep (λb L k=>by obtain⟨cs,fr,e⟩:=k;rw[show b=w.heap.size+1 from L,d]at e;simp at e) G,(A.out.1.then F).trans G (λx Q e=>by omega)⟩
theorem Ia(a b:Nat)(r:Xc):(Kg a b r).length<=2:=by unfold Kg;split;simp;split<;>split<;>simp
theorem Bn(l:List Xc)(a b:Nat):(Xj l a b).length<=2*l.length:=by
 induction l with
 | nil=>simp[Xj]
 | cons r l d =>
  have:=Ia a b r;simp only[Xj,List.flatMap_cons,BO,List.length_cons]at d⊢;omega
theorem QS{l:List Xc}(h:l[k]?=AF r):Xj (l.take (k+1)) a b=Xj (l.take k) a b++Kg a b r:=by obtain⟨d,rfl⟩:=List.getElem?_eq_some_iff.1 h;unfold Xj;rw[BM d,List.flatMap_append];simp
theorem Bd(w:AC)(a b:Nat):Zy (w.alloc (.cells #[.int .u64 a,.int .u64 b] 96)) (.slice (AF ⟨w.heap.size,0,AI⟩) 1 1) [(a,b)]:=by
 have f:=Qy w (.cells #[.int .u64 a,.int .u64 b] 96);refine⟨AF ⟨w.heap.size,0,AI⟩,1,rfl,BE _,by decide,λe=>(by cases e),λ_=>⟨w.heap.size,0,rfl,⟨_,_,f⟩,λi r d=>?_⟩⟩
 match i,d with
 | 0,d =>
  simp at d;subst d;rw[Qq f,Qq f];exact⟨rfl,rfl⟩
theorem QZ(h:Zy w v l)(hs:Uk l)(a b:Nat)(hl:l.length<=268435456)(aI:a<=b)(hb:b<18446744073709551616) :
  DJ Tryz.prog 202 #[.agg #[v],.agg #[.int .u64 a,.int .u64 b]] w λe w'=>∃v',e=.returned (.agg #[v'])/\Zy w' v' (Xj l a b)/\Xy No w w':=by
 obtain⟨ao,cap,rfl,hc,hm⟩:=h.form;unfold maxLen at hm;obtain⟨W,hW⟩:∃W,W=((w.alloc (.cells #[.slice ao l.length cap] 90)).alloc (.cells #[.int .u64 a,.int .u64 b] 96)).alloc (.cells #[.slice AI 0 0] 90):=⟨_,rfl⟩;have aK:(w.alloc (.cells #[.slice ao l.length cap] 90)).heap.size=w.heap.size+1:=by simp
 have aD:((w.alloc (.cells #[.slice ao l.length cap] 90)).alloc (.cells #[.int .u64 a,.int .u64 b] 96)).heap.size=w.heap.size+1+1:=by simp
 have kW:Xy No w W:=by rw[hW];exact(((Xy.refl _ _).alloc _).alloc _).alloc _
 have hA:W.heap[w.heap.size]?=AF (.cells #[.slice ao l.length cap] 90 (0,0)):=by rw[hW];exact(((Xy.refl No _).alloc _).alloc _).heap (Qy _ _) id
 have hX:W.heap[w.heap.size+1]?=AF (.cells #[.int .u64 a,.int .u64 b] 96 (0,0)):=by rw[hW,<- aK];exact((Xy.refl No _).alloc _).heap (Qy _ _) id
 have hB:W.heap[w.heap.size+1+1]?=AF (.cells #[.slice AI 0 0] 90 (0,0)):=by rw[hW,<- aD];exact Qy _ _
 have c0:=Qq hA 0;have x0:=Qq hX 0;have x1:=Qq hX 1;simp at c0 x0 x1;have aW:(l.length:Int)<=268435456:=by omega
 have HH:=BX (A8 kW hB (h.no kW) hs aI hb hl hc);clear hA hX kW h hs hl hc hm hB aK aD aI hb;go_enter Tryz.func202,Tryz.ntmps202;go_wp2_with fail;rw[<- hW];clear hW;go_wp2_with fail;go_loopw [5,11] (λov kv wr=>∃(k:Nat),kv=.int .i64 k/\k<=l.length/\Hl wr W.heap.size ov (Xj (l.take k) a b)/\Xy No W wr) (λ_ kv _=>l.length-(C0 kv).toNat);case atStart=>exact⟨0,rfl,BW _,by simp[Xj];exact Hl.nil _ _,Xy.refl _ _⟩
 case round =>
  obtain⟨k,rfl,hk,n,J⟩:=hrel;obtain⟨oo,oc,rfl,_,_⟩:=n.form;have y0:=J.cell c0 id;have y1:=J.cell x0 id;have y2:=J.cell x1 id;by_cases C:k<l.length
  ·have Q:l[k]?=AF l[k]:=BY C;generalize l[k]=r at Q;obtain⟨R,S⟩:=HH.out.2.2.2.1.run r (FB Q);have d:=QS (a:=a) (b:=b) Q;obtain⟨g,o,rfl,F⟩:=HH.out.2.2.1.row (λe=>by rw[e]at C;simp at C);have r0:=J.cell (F k r Q).1 id;have r1:=J.cell (F k r Q).2 id;have aP:(k:Int)<(l.length:Int):=by omega
   have H:=Bn (l.take k) a b;have E:(l.take k).length<=k:=by simp;omega
   obtain⟨ol,O⟩:∃ol,ol=Xj (l.take k) a b:=⟨_,rfl⟩;rw[<- O]at n d H⊢;have kA:=λo=>(Xy.refl No wr).alloc o;have aX:=λo=>(kA o).cell y1 id;have aR:=λo=>(kA o).cell y2 id;have G:=Qy wr (.cells #[.int .u64 r.1,.int .u64 r.2] 96);have B:=λo=>n.keep (kA o) (λ_ _ e=>e);by_cases M:r.2<a\/b<r.1
   ·have hp:Kg a b r=[r]:=by unfold Kg;rw[if_pos M]
    rw[hp]at d;have p:=Bd (wr.alloc (.cells #[.int .u64 r.1,.int .u64 r.2] 96)) r.1 r.2;rw[FE]at p;have m:=(B (.cells #[.int .u64 r.1,.int .u64 r.2] 96)).keep ((Xy.refl No _).alloc (.cells #[.int .u64 r.1,.int .u64 r.2] 96)) (λ_ _ e=>e);have j:ol.length+[(r.1,r.2)].length<=1099511627776:=by have:=HH.out.qg;simp;omega
    have z:W.heap.size<=((wr.alloc (.cells #[.int .u64 r.1,.int .u64 r.2] 96)).alloc (.cells #[.int .u64 r.1,.int .u64 r.2] 96)).heap.size:=by have:=J.size;simp;omega
    have A:=((J.alloc (.cells #[.int .u64 r.1,.int .u64 r.2] 96)).alloc (.cells #[.int .u64 r.1,.int .u64 r.2] 96));have f:=BX (A7 d A C m p j z);by_cases K:r.2<a
    ·have aN:(r.2:Int)<(a:Int):=by omega
     clear d J C n m p j z A H E Q F hp M K O hk R S B G kA;go_wp2_with(at_builtin;refine Xo rfl _ _ rfl f.out.qd f.out.qe rfl rfl f.out.qf f.out.rg ?_;intro v' w' I U);go_roundw;case rel=>exact⟨k+1,by congr 1,by have:=f.out.qc;omega,by rw[f.out.1];exact I,f.out.2.1.trans U (λx hx e=>by have:=(f.out.2.2.2.1.lt x e).1;omega)⟩
     case measure=>have:=f.out.qc;simp[C0];omega
    ·have aN:¬(r.2:Int)<(a:Int):=by omega
     have aS:(b:Int)<(r.1:Int):=by omega
     clear d J C n m p j z A H E Q F hp M K O hk R S B G kA;go_wp2_with(at_builtin;refine Xo rfl _ _ rfl f.out.qd f.out.qe rfl rfl f.out.qf f.out.rg ?_;intro v' w' I U);go_roundw;case rel=>exact⟨k+1,by congr 1,by have:=f.out.qc;omega,by rw[f.out.1];exact I,f.out.2.1.trans U (λx hx e=>by have:=(f.out.2.2.2.1.lt x e).1;omega)⟩
     case measure=>have:=f.out.qc;simp[C0];omega
   ·have hp:Kg a b r=(if r.1<a then[(r.1,a-1)]else[])++(if b<r.2 then[(b+1,r.2)]else[]):=by unfold Kg;rw[if_neg M]
    rw[hp]at d;have aU:¬(r.2:Int)<(a:Int):=by omega
    have aV:¬(b:Int)<(r.1:Int):=by omega
    have N:ol.length<=536870912:=by have:=HH.out.qg;omega
    have aC:(wr.alloc (.cells #[.int .u64 r.1,.int .u64 r.2] 96)).heap.size=wr.heap.size+1:=FE _ _;have aB:=J.size;have aA:=HH.out.qf;by_cases K:r.1<a
    ·rw[if_pos K]at d;have aO:(r.1:Int)<(a:Int):=by omega
     have aL:IntKind.u64.wrap ((a:Int)-1)=((a-1:Nat):Int):=by rw[EC _ (by omega) (by omega)];omega
     obtain⟨Z,aE⟩:∃Z,Z=a-1:=⟨_,rfl⟩;rw[<- aE]at aL d;have aT:=aL;have p:=Bd (wr.alloc (.cells #[.int .u64 r.1,.int .u64 r.2] 96)) r.1 Z;rw[FE]at p;have m:=(B (.cells #[.int .u64 r.1,.int .u64 r.2] 96)).keep ((Xy.refl No _).alloc (.cells #[.int .u64 r.1,.int .u64 Z] 96)) (λ_ _ e=>e);have z:W.heap.size<=((wr.alloc (.cells #[.int .u64 r.1,.int .u64 r.2] 96)).alloc (.cells #[.int .u64 r.1,.int .u64 Z] 96)).heap.size:=by simp;omega
     have A:=((J.alloc (.cells #[.int .u64 r.1,.int .u64 r.2] 96)).alloc (.cells #[.int .u64 r.1,.int .u64 Z] 96));have aF:=((Xy.refl No _).alloc (.cells #[.int .u64 r.1,.int .u64 Z] 96)).heap G id;have aH:=((Xy.refl No _).alloc (.cells #[.int .u64 r.1,.int .u64 Z] 96)).cell (aR (.cells #[.int .u64 r.1,.int .u64 r.2] 96)) id;have V:∀c,(Value.slice oo ol.length oc).ownBlock=AF c->W.heap.size<=c/\c<wr.heap.size:=n.lt;have X:w.heap.size+1<W.heap.size:=World.block_lt_of_cell? _ _ x1;have j:ol.length+[(r.1,Z)].length<=1099511627776:=by simp;omega
     have f:=BX (A12 d A C m p j z aF aH V X N);by_cases L:b<r.2
     ·rw[if_pos L]at f;have aG:(b:Int)<(r.2:Int):=by omega
      obtain⟨P,T⟩:∃P,P=b+1:=⟨_,rfl⟩;rw[<- T]at f;have aQ:IntKind.u64.wrap ((b:Int)+1)=(P:Int):=by rw[EC _ (by omega) (by omega)];omega
      clear J C n m p j z A H E Q F hp M K L O hk R S B G kA d aE aC aB aA aF aH V X N T;go_wp2_with(first
       | (at_builtin;refine Xo rfl _ _ rfl (D.keep ((Xy.refl No _).alloc (.cells #[.int .u64 P,.int .u64 r.2] 96)) (λ_ _ e=>e)) (Bd w3 P r.2) rfl rfl (by have:=f.out.rl;simp;omega) (by have:=Y.size;have:=f.out.qg;simp;omega) ?_;intro v4 w4 aM k4)
       | (at_builtin;refine Xo rfl _ _ rfl f.out.qd f.out.qe rfl rfl f.out.qf f.out.qg ?_;intro v3 w3 D Y;have q:=Y.heap f.out.qh (λe=>by have:=f.out.qj _ e;omega);have q0:=Qq q 0;have q1:=Qq q 1;have q2:=Y.cell f.out.qi (λe=>by have:=f.out.qj _ e;have:=f.out.qk;have e2:W.heap.size<=w.heap.size+1:=(f.out.qj _ e).1;omega);simp at q0 q1;obtain⟨o3,c3,rfl,_,_⟩:=D.form;have D:=D;simp only[BO,FF]at D;have Y:=Y))
      go_roundw;case rel=>exact⟨k+1,by congr 1,by have:=f.out.qc;omega,by rw[f.out.1,<- List.append_assoc];exact aM,((f.out.2.1.trans Y (λx hx e=>by have:=(f.out.qj x e).1;omega)).alloc _).trans k4 (λx hx e=>by have:=(D.lt x e).1;omega)⟩
      case measure=>have:=f.out.qc;simp[C0];omega
     ·rw[if_neg L]at f;have aG:¬(b:Int)<(r.2:Int):=by omega
      clear J C n m p j z A H E Q F hp M K L O hk R S B G kA d aE aC aB aA aF aH V X N;go_wp2_with(at_builtin;refine Xo rfl _ _ rfl f.out.qd f.out.qe rfl rfl f.out.qf f.out.qg ?_;intro v3 w3 D Y;have q:=Y.heap f.out.qh (λe=>by have:=f.out.qj _ e;omega);have q0:=Qq q 0;have q1:=Qq q 1;have q2:=Y.cell f.out.qi (λe=>by have:=f.out.qj _ e;have:=f.out.qk;have e2:W.heap.size<=w.heap.size+1:=(f.out.qj _ e).1;omega);simp at q0 q1;obtain⟨o3,c3,rfl,_,_⟩:=D.form);go_roundw;case rel=>exact⟨k+1,by congr 1,by have:=f.out.qc;omega,by have h3:=D;simp only[BO,FF]at h3;rw[f.out.1,B5];exact h3,f.out.2.1.trans Y (λx hx e=>by have:=(f.out.qj x e).1;omega)⟩
      case measure=>have:=f.out.qc;simp[C0];omega
    ·rw[if_neg K]at d;have aO:¬(r.1:Int)<(a:Int):=by omega
     by_cases L:b<r.2
     ·rw[if_pos L]at d;have aG:(b:Int)<(r.2:Int):=by omega
      obtain⟨P,T⟩:∃P,P=b+1:=⟨_,rfl⟩;rw[<- T]at d;have aQ:IntKind.u64.wrap ((b:Int)+1)=(P:Int):=by rw[EC _ (by omega) (by omega)];omega
      have p:=Bd (wr.alloc (.cells #[.int .u64 r.1,.int .u64 r.2] 96)) P r.2;rw[FE]at p;have m:=(B (.cells #[.int .u64 r.1,.int .u64 r.2] 96)).keep ((Xy.refl No _).alloc (.cells #[.int .u64 P,.int .u64 r.2] 96)) (λ_ _ e=>e);have z:W.heap.size<=((wr.alloc (.cells #[.int .u64 r.1,.int .u64 r.2] 96)).alloc (.cells #[.int .u64 P,.int .u64 r.2] 96)).heap.size:=by simp;omega
      have A:=((J.alloc (.cells #[.int .u64 r.1,.int .u64 r.2] 96)).alloc (.cells #[.int .u64 P,.int .u64 r.2] 96));have j:ol.length+[(P,r.2)].length<=1099511627776:=by simp;omega
      have f:=BX (A7 d A C m p j z);clear J C n m p j z A H E Q F hp M K L O hk R S B G kA d T aC aB aA N;go_wp2_with(at_builtin;refine Xo rfl _ _ rfl f.out.qd f.out.qe rfl rfl f.out.qf f.out.rg ?_;intro v' w' I U);go_roundw;case rel=>exact⟨k+1,by congr 1,by have:=f.out.qc;omega,by rw[f.out.1,List.nil_append];exact I,f.out.2.1.trans U (λx hx e=>by have:=(f.out.2.2.2.1.lt x e).1;omega)⟩
      case measure=>have:=f.out.qc;simp[C0];omega
     ·rw[if_neg L]at d;have aG:¬(b:Int)<(r.2:Int):=by omega
      have f:=BX (A4 d (J.alloc (.cells #[.int .u64 r.1,.int .u64 r.2] 96)) C (B (.cells #[.int .u64 r.1,.int .u64 r.2] 96)));clear J C n H E Q F hp M K L O hk R S B G kA d aC aB aA N;go_wp2_with fail;go_roundw;case rel=>exact⟨k+1,by congr 1,by have:=f.out.qc;omega,by rw[f.out.1,B5,B5];exact f.out.2.2.2,f.out.2.1⟩
      case measure=>have:=f.out.qc;simp[C0];omega
  ·have aJ:k=l.length:=by omega
   have aP:¬(k:Int)<(l.length:Int):=by omega
   rw[aJ,DU (BE _)]at n⊢;have hB:=J.heap HH.out.2.1 id;have b0:=Qq hB 0;have fb:=Qg hB;simp at b0;have f:=BX (A3 J n hB);clear J n hk C hB;subst aJ;go_wp2_with fail;have hZ:=Qz (i:=0) (u:=.slice oo (Xj l a b).length oc) f.out.2.2;have kZ:=Qd (g:=w.heap.size+1+1) (i:=0) wr (.slice oo (Xj l a b).length oc);have z0:=Qq hZ 0;simp at z0;refine FC (v:=.agg #[.slice oo (Xj l a b).length oc]) (by simp[FD,Tryz.results202,go_sem,z0]) rfl ?_;have hB:=f.out.2.2;exact⟨_,rfl,f.out.2.1.runs.keep (λc hb Q=>by obtain⟨cs,fr,e⟩:=Q;rw[show c=w.heap.size+1+1 from hb,hB]at e;simp at e) kZ,(HH.out.1.then f.out.1).trans kZ (λx hx e=>by omega)⟩
theorem UJ(h:Zy w v l)(H:Uk l)(n:Nat)(G:l.length<=268435456)(P:n<18446744073709551616) :
  DJ Tryz.prog 169 #[.agg #[v],.int .u64 n] w λe C=>∃K,e=.returned (.agg #[K])/\Zy C K (Ua l n)/\Xy No w C:=by
 obtain⟨ao,cap,rfl,M,O⟩:=h.form;obtain⟨W,j⟩:∃W,W=(w.alloc (.cells #[.slice ao l.length cap] 90)).alloc (.cells #[.slice AI 0 0] 90):=⟨_,rfl⟩;have f:(w.alloc (.cells #[.slice ao l.length cap] 90)).heap.size=w.heap.size+1:=by simp
 have B:Xy No w W:=by rw[j];exact((Xy.refl _ _).alloc _).alloc _
 have F:W.heap[w.heap.size]?=AF (.cells #[.slice ao l.length cap] 90 (0,0)):=by rw[j];exact((Xy.refl No _).alloc _).heap (Qy _ _) id
 have d:W.heap[w.heap.size+1]?=AF (.cells #[.slice AI 0 0] 90 (0,0)):=by rw[j,<- f];exact Qy _ _
 have L:=Qq F 0;simp at L;by_cases z:n=0
 ·have e:Ua l n=l:=by unfold Ua;rw[if_pos z]
  rw[e];have p:=Qy (w.alloc (.cells #[.slice ao l.length cap] 90)) (.cells #[.slice ao l.length cap] 90);rw[FE]at p;have k:Xy No w ((w.alloc (.cells #[.slice ao l.length cap] 90)).alloc (.cells #[.slice ao l.length cap] 90)):=((Xy.refl _ _).alloc _).alloc _;have D:=Qq p 0;simp at D;have o:=BX (A2 k (h.no k));subst z;clear F B h H G M O P d f e p k L j;go_enter Tryz.func169,Tryz.ntmps169;go_wp2_with fail;refine FC (v:=.agg #[.slice ao l.length cap]) (by simp[FD,Tryz.results169,go_sem]) rfl ?_;exact⟨_,rfl,o.out.2,o.out.1⟩
 ·have e:Ua l n=Xj l 0 (n-1):=by unfold Ua;rw[if_neg z]
  rw[e];have N:=QZ (h.no B) H 0 (n-1) G (by omega) (by omega);have S:((n:Int)==0)=false:=by simp;omega
  have I:IntKind.u64.wrap ((n:Int)-1)=((n-1:Nat):Int):=by rw[EC _ (by omega) (by omega)];omega
  have o:=BX (A2 B d);obtain⟨m,q⟩:∃m,m=n-1:=⟨_,rfl⟩;rw[<- q]at N I⊢;clear F B h H G M O P d f e z q;go_enter Tryz.func169,Tryz.ntmps169;go_wp2_with fail;rw[<- j];clear j;go_wp2_with fail;refine N.mono ?_;rintro e C⟨K,rfl,A,Q⟩;obtain⟨J,E,rfl,_,_⟩:=A.form;have d:=Q.heap o.out.2 id;have R:=Qq d 0;have U:=Qg d;simp at R;go_wp2;have p:=Qz (i:=0) (u:=.slice J (Xj l 0 m).length E) d;have k:=Qd (g:=w.heap.size+1) (i:=0) C (.slice J (Xj l 0 m).length E);have D:=Qq p 0;simp at D;refine FC (v:=.agg #[.slice J (Xj l 0 m).length E]) (by simp[FD,Tryz.results169,go_sem,D]) rfl ?_;exact⟨_,rfl,A.keep (λb T A=>by obtain⟨cs,fr,e⟩:=A;rw[show b=w.heap.size+1 from T,d]at e;simp at e) k,(o.out.1.then Q).trans k (λx V e=>by omega)⟩
theorem Eo(S:Zy w va l)(T:Zy w vb m)(Z:l.length<=268435456)(G:m.length<=268435456) :
  DJ Tryz.prog 131 #[va,vb] w λe w'=>e=.returned (.bool (decide (l=m)))/\Xy No w w':=by
 obtain⟨ao,ac,rfl,H,I⟩:=S.form;obtain⟨bo,bc,rfl,J,K⟩:=T.form;have aA:(l.length:Int)<=268435456:=by omega
 obtain⟨bb,n⟩:∃bb,bb=decide (l=m):=⟨_,rfl⟩;rw[<- n];by_cases p:l.length=m.length
 ·have R:=BX (A3 S T p);have W:=BX n;clear n;have L:((l.length:Int) != (m.length:Int))=false:=by simp[p]
  clear S T p H I J K Z G;go_enter Tryz.func131,Tryz.ntmps131;go_wp2_with fail;go_loopw [13] (λiv wr=>∃(k:Nat),iv=.int .i64 k/\k<=l.length/\l.take k=m.take k/\Xy No w wr) (λiv _=>l.length-(C0 iv).toNat);case atStart=>exact⟨0,rfl,BW _,by simp,Xy.refl _ _⟩
  case round =>
   obtain⟨k,rfl,U,j,C⟩:=hrel;by_cases d:k<l.length
   ·have f:k<m.length:=by rw[<- R.out.2.2];exact d
    have P:l[k]?=AF l[k]:=BY d;have Q:m[k]?=AF m[k]:=BY f;obtain⟨r,z⟩:∃r,r=l[k]:=⟨_,rfl⟩;obtain⟨s,B⟩:∃s,s=m[k]:=⟨_,rfl⟩;rw[<- z]at P;rw[<- B]at Q;obtain⟨g,o,rfl,i⟩:=R.out.1.row (λe=>by rw[e]at d;simp at d);obtain⟨g2,o2,rfl,h⟩:=R.out.2.1.row (λe=>by rw[e]at f;simp at f);have r0:=C.cell (i k r P).1 id;have r1:=C.cell (i k r P).2 id;have s0:=C.cell (h k s Q).1 id;have s1:=C.cell (h k s Q).2 id;have V:(k:Int)<(l.length:Int):=by omega
    have Y:(k:Int)<(m.length:Int):=by omega
    have E:l.take (k+1)=l.take k++[r]:=by rw[BM d,z]
    have F:m.take (k+1)=m.take k++[s]:=by rw[BM f,B]
    by_cases A:r=s
    ·subst A;have D:=BX (A3 (show l.take (k+1)=m.take (k+1)by rw[E,F,j]) C d);clear E F j C d f P Q i h U z B;go_wp2_with fail;go_quiet (fail);go_wp2_with fail;go_roundw;case rel=>exact⟨k+1,by congr 1,by have:=D.out.2.2;omega,D.out.1,D.out.2.1.drewN _⟩
     case measure=>have:=D.out.2.2;simp[C0];omega
    ·have q:decide (l=m)=false:=by simp;intro e;apply A;rw[z,B];subst e;rfl
     obtain rfl:bb=false:=W.out.trans q;obtain⟨ra,rb⟩:=r;obtain⟨sa,sb⟩:=s;simp only at r0 r1 s0 s1;have D:=BX (A2 C d);clear E F j C d f P Q i h U z B q;by_cases X:ra=sa
     ·subst X;have h2:((rb:Int)==(sb:Int))=false:=by simp;intro e;apply A;congr 1;omega
      clear A;go_wp2_with fail;go_quiet (fail);go_wp2_with fail;go_ret;exact⟨rfl,D.out.1.drewN _⟩
     ·have h2:((ra:Int)==(sa:Int))=false:=by simp;omega
      clear A X;go_wp2_with fail;go_quiet (fail);go_wp2_with fail;go_ret;exact⟨rfl,D.out.1.drewN _⟩
   ·have O:k=l.length:=by omega
    have N:l=m:=by rw[O,DU (BE _)]at j;rw[j,DU (by rw[R.out.2.2];exact BE _)]
    have M:decide (l=m)=true:=by simp[N]
    obtain rfl:bb=true:=W.out.trans M;have V:¬(k:Int)<(l.length:Int):=by omega
    have D:=BX C;clear C j U d M O N;go_wp2_with fail;go_ret;exact⟨rfl,D.out⟩
 ·have L:((l.length:Int) != (m.length:Int))=true:=by simp;omega
  have q:decide (l=m)=false:=by simp;intro e;exact p (by rw[e])
  obtain rfl:bb=false:=n.trans q;clear n S T p H I J K Z G q;go_enter Tryz.func131,Tryz.ntmps131;go_wp2_with fail;go_ret;exact⟨rfl,Xy.refl _ _⟩
theorem UH(f:Zy w p l)(i:Zy w q m)(n:l.length<=268435456)(o:m.length<=268435456) :
  DJ Tryz.prog 92 #[.agg #[p],.agg #[q]] w λe z=>e=.returned (.bool (decide (l=m)))/\Xy No w z:=by
 obtain⟨ao,B,rfl,g,h⟩:=f.form;obtain⟨D,C,rfl,j,k⟩:=i.form;have d:Xy No w ((w.alloc (.cells #[.slice ao l.length B] 90)).alloc (.cells #[.slice D m.length C] 90)):=((Xy.refl _ _).alloc _).alloc _;have E:=Eo (f.no d) (i.no d) n o;have A:=BX d;clear f i d g h j k n o;go_enter Tryz.func92,Tryz.ntmps92;go_wp2_with(go_at_call 131;refine E.mono ?_;rintro e z ⟨rfl,F⟩);go_ret;exact⟨rfl,A.out.then F⟩
theorem Uk.len:∀{l:List Xc} {a N:Nat},Uk l->(∀r∈l,a<=r.1/\r.2<a+N)->l.length<=N
 | [],a,N,_,_=>BW _
 | r::l,a,N,h,f=>by
  have m:=f r (by simp)
  have g:=(h.run r (by simp)).1
  have:=Uk.len (l:=l) (a:=r.2+2) (N:=a+N-(r.2+2)) h.tail (λx d=>by
   have i:=h.head x d
   have j:=f x (by simp[d])
   have k:=(h.run x (by simp[d])).1
   omega)
  simp
  omega
theorem Xn.Ok.few{x:Xn}(h:x.Ok):x.set.length<=268435456:=by
 have:=Uk.len (a:=x.low) (N:=x.width+1) h.set (λr d=>by
  have f:=h.above _ (h.set.first d);have g:=h.above _ (h.set.last d)
  omega)
 have:=h.width;omega
structure Xn.Pre (x:Xn):Prop where
 set:Uk x.set
 few:x.set.length<=268435456
 low:x.low<4611686018427387904
 width:x.width<=1024
theorem Xn.Ok.pre{x:Xn}(h:x.Ok):x.Pre:=⟨h.set,h.few,h.low,h.width.2⟩
def Nf (w:AC)(u:AM)(x:Xn):Prop:=∃v,u=.agg #[.int .u64 x.low,.int .u64 x.width,v]/\Zy w v x.set
theorem Nf.no(h:Nf w u x)(k:Xy No w d):Nf d u x:=by obtain⟨v,f,g⟩:=h;exact⟨v,f,g.no k⟩
theorem Nf.form(h:Nf w u x):∃ao cap,u=.agg #[.int .u64 x.low,.int .u64 x.width,.slice ao x.set.length cap]/\Zy w (.slice ao x.set.length cap) x.set:=by obtain⟨v,f,d⟩:=h;obtain⟨ao,cap,rfl,_⟩:=d.form;exact⟨ao,cap,f,d⟩
theorem SP(w:AC)(n:Nat):DJ Tryz.prog 55 #[.int .u64 n] w λe g=>∃u,e=.returned u/\Nf g u (Xn.new n)/\Xy No w g:=by have d:=Qy w (.cells #[.int .u64 0,.int .u64 n,.slice AI 0 0] 92);have f:Xy No w (w.alloc (.cells #[.int .u64 0,.int .u64 n,.slice AI 0 0] 92)):=(Xy.refl _ _).alloc _;have i:=Qq d 0;have j:=Qq d 1;have k:=Qq d 2;simp at i j k;have h:=BX f;clear d f;go_enter Tryz.func55,Tryz.ntmps55;go_wp2_with fail;refine FC (v:=.agg #[.int .u64 0,.int .u64 n,.slice AI 0 0]) (by simp[FD,Tryz.results55,go_sem]) rfl ?_;exact⟨_,rfl,⟨_,rfl,Zy.nil _⟩,h.out⟩
theorem Dp(h:Nf w u x)(d:x.Pre):DJ Tryz.prog 38 #[u] w λe k=>e=.returned (.int .u64 (x.low+x.width:Nat))/\Xy No w k:=by
 obtain⟨ao,cap,rfl,j⟩:=h.form;have g:=d.low;have i:=d.width;obtain⟨s,f⟩:∃s,s=x.low+x.width:=⟨_,rfl⟩;have m:IntKind.u64.wrap ((x.low:Int)+(x.width:Int))=(s:Int):=by rw[EC _ (by omega) (by omega)];omega
 rw[<- f];clear h j d g i f;go_enter Tryz.func38,Tryz.ntmps38;go_wp2_with fail;go_ret;exact⟨rfl,(Xy.refl _ _).alloc _⟩
theorem SL(h:Nf w u x)(f:x.Pre)(n:Nat):DJ Tryz.prog 40 #[u,.int .u64 n] w λe o=>e=.returned (.bool (x.had n))/\Xy No w o:=by
 obtain⟨ao,cap,rfl,j⟩:=h.form;have g:=(Xy.refl No w).alloc (.cells #[.int .u64 x.low,.int .u64 x.width,.slice ao x.set.length cap] 92);have m:=R3 (j.no g) f.set n (BF f.few (by decide));have k:=BX g;by_cases d:n<=x.low
 ·have e:x.had n=true:=by unfold Xn.had;simp[d]
  rw[e];have i:(n:Int)<=(x.low:Int):=by omega
  clear h j f g d e m;go_enter Tryz.func40,Tryz.ntmps40;go_wp2_with fail;go_ret;exact⟨rfl,k.out⟩
 ·have e:x.had n=Z9 x.set n:=by unfold Xn.had;simp[d]
  rw[e];have i:¬(n:Int)<=(x.low:Int):=by omega
  clear h j f g d e;go_enter Tryz.func40,Tryz.ntmps40;go_wp2_with(go_at_call 91;refine m.mono ?_;rintro e o ⟨rfl,p⟩);go_ret;exact⟨rfl,k.out.then p⟩
theorem Dw(h:Nf w u x)(o:x.Pre)(n:Nat):DJ Tryz.prog 65 #[u,.int .u64 n] w λe B=>e=.returned (.bool (x.takes n))/\Xy No w B:=by
 obtain⟨ao,cap,rfl,C⟩:=h.form;have g:=(Xy.refl No w).alloc (.cells #[.int .u64 x.low,.int .u64 x.width,.slice ao x.set.length cap] 92);have z:=Qy w (.cells #[.int .u64 x.low,.int .u64 x.width,.slice ao x.set.length cap] 92);have m:=SL (h.no g) o n;have d:=λ(B:AC) (k:Xy No (w.alloc (.cells #[.int .u64 x.low,.int .u64 x.width,.slice ao x.set.length cap] 92)) B)=>Dp ((h.no g).no k) o;obtain⟨s,p⟩:∃s,s=x.low+x.width:=⟨_,rfl⟩;have A:x.takes n=(!x.had n&&decide (n<=s)):=by rw[p];rfl
 rw[<- p]at d;have i:=BX (A3 g z d);rw[A];cases j:x.had n
 ·rw[j]at m;have e:(!false&&decide (n<=s))=decide ((n:Int)<=(s:Int)):=by simp
  rw[e];clear h C o g A e z d p j;go_enter Tryz.func65,Tryz.ntmps65;go_wp2_with(first
   | (go_at_call 38;refine(i.out.2.2 D f).mono ?_;rintro e I ⟨rfl,E⟩)
   | (go_at_call 40;refine m.mono ?_;rintro e D ⟨rfl,f⟩;have q:=f.heap i.out.2.1 id;have F:=Qq q 0;have G:=Qq q 1;have H:=Qq q 2;simp at F G H))
  go_ret;exact⟨by simp,(i.out.1.then f).then E⟩
 ·rw[j]at m;clear h C o g A z d p j;go_enter Tryz.func65,Tryz.ntmps65;go_wp2_with(go_at_call 40;refine m.mono ?_;rintro e D ⟨rfl,f⟩);go_ret;exact⟨rfl,i.out.1.then f⟩
theorem Rz{W:AC}{g:Nat}{j k m:AM}(d f h:AM)(n:W.heap[g]?=AF (.cells #[j,k,m] 92 (0,0))) :
  (((W.setCell ⟨g,0,AI⟩ d).setCell ⟨g,1,AI⟩ f).setCell ⟨g,2,AI⟩ h).heap[g]?=AF (.cells #[d,f,h] 92 (0,0))/\Xy (·=g) W (((W.setCell ⟨g,0,AI⟩ d).setCell ⟨g,1,AI⟩ f).setCell ⟨g,2,AI⟩ h) :=
 ⟨Qz (i:=2) (u:=h) (Qz (i:=1) (u:=f) (Qz (i:=0) (u:=d) n)),((Qd (g:=g) (i:=0) W d).setCell (p:=⟨g,1,AI⟩) (.inl rfl) f).setCell (p:=⟨g,2,AI⟩) (.inl rfl) h⟩
theorem Zn.block{w:AC}{g:Nat}{cs:Array AM}{t:TypeId}{fr:Nat×Nat}(h:w.heap[g]?=AF (.cells cs t fr))(k:t≠96):Zn w (·=g):=λc i j=>by
 obtain⟨d,f,e⟩:=j
 rw[show c=g from i,h]at e
 simp at e
 exact k e.2.1
theorem NB(d:∀r∈l,r.2<9223372036854775807)(f:n<=9223372036854775807)(h:Z8 l n=AF m):m<=9223372036854775807:=by
 unfold Z8 at h
 split at h
 ·simp at h;omega
 ·rename_i r e;have:=d r (Ul e)
  split at h
  ·simp at h;omega
  ·split at h
   ·cases h
   ·simp at h;omega
theorem Pw(h:Nf w u x)(V:Uk x.set)(hl:x.set.length<=268435456)(N:x.low<4611686018427387904)(hb:∀r∈x.set,r.2<9223372036854775807) :
  DJ Tryz.prog 116 #[u] w λe w'=>∃u',e=.returned u'/\Nf w' u' x.closed/\Xy No w w':=by
 obtain⟨ao,cap,rfl,q⟩:=h.form;obtain⟨W,K⟩:∃W,W=(w.alloc (.cells #[.int .u64 x.low,.int .u64 x.width,.slice ao x.set.length cap] 92)).alloc (.cells #[.int .u64 0,.int .u64 0,.slice AI 0 0] 92):=⟨_,rfl⟩;have Y:Xy No w W:=by rw[K];exact((Xy.refl _ _).alloc _).alloc _
 have G:W.heap[w.heap.size]?=AF (.cells #[.int .u64 x.low,.int .u64 x.width,.slice ao x.set.length cap] 92 (0,0)):=by rw[K];exact((Xy.refl No _).alloc _).heap (Qy _ _) id
 have H:W.heap[w.heap.size+1]?=AF (.cells #[.int .u64 0,.int .u64 0,.slice AI 0 0] 92 (0,0)):=by rw[K];have:=Qy (w.alloc (.cells #[.int .u64 x.low,.int .u64 x.width,.slice ao x.set.length cap] 92)) (.cells #[.int .u64 0,.int .u64 0,.slice AI 0 0] 92);rw[FE]at this;exact this
 obtain⟨m,O⟩:=Q5 (n:=x.low+1) (l:=x.set) (λr q=>by have:=hb r q;omega);have aC:=(GV V O).1;have P:=NB hb (by omega) O;have hg:=R2 (q.no Y) V (x.low+1) m (BF hl (by decide)) O;obtain⟨a,ha⟩:∃a,a=x.low+1:=⟨_,rfl⟩;obtain⟨b,L⟩:∃b,b=m-1:=⟨_,rfl⟩;have M:x.closed=⟨b,x.width,Ua x.set m⟩:=by
  have e:x.lowC=b:=by unfold Xn.lowC;rw[O,L]
  unfold Xn.closed;rw[e,show b+1=m by omega]
 have aG:IntKind.u64.wrap ((x.low:Int)+1)=(a:Int):=by rw[EC _ (by omega) (by omega)];omega
 have aH:IntKind.u64.wrap ((m:Int)-1)=(b:Int):=by rw[EC _ (by omega) (by omega)];omega
 have aI:IntKind.u64.wrap ((b:Int)+1)=(m:Int):=by rw[EC _ (by omega) (by omega)];omega
 rw[<- ha]at hg;rw[M];have c0:=Qq G 0;have c1:=Qq G 1;have c2:=Qq G 2;simp at c0 c1 c2;have z:=BX (A7 Y G H (q.no Y) V hl P);clear h q V hl N hb Y G H O aC P ha L M;go_enter Tryz.func116,Tryz.ntmps116;go_wp2_with fail;rw[<- K];clear K;go_wp2_with fail;refine hg.mono ?_;rintro e Z⟨rfl,Q⟩;clear hg;have d:=Q.heap z.out.2.1 id;have I:=Q.heap z.out.qc id;have d0:=Qq d 0;have d1:=Qq d 1;have d2:=Qq d 2;have aD:=Qg d;simp at d0 d1 d2;obtain⟨W2,aA⟩:∃W2,Z.setCell ⟨w.heap.size,0,AI⟩ (.int .u64 b)=W2:=⟨_,rfl⟩;have R:Xy (·=w.heap.size) Z (Z.setCell ⟨w.heap.size,0,AI⟩ (.int .u64 b)):=Qd _ _;have j:=Qz (i:=0) (u:=.int .u64 b) d;have o:Zn Z (·=w.heap.size):=λc hc q=>by obtain⟨cs,fr,e⟩:=q;rw[show c=w.heap.size from hc,d]at e;simp at e
 have B:=(z.out.2.2.2.1.no Q).keep o R;have p:=Qt z.out.2.1;have A:=R.heap I (by show ¬w.heap.size+1=w.heap.size;omega);rw[aA]at R j B A;have hf:=UJ B z.out.qe m z.out.qf (by have:=z.out.rg;omega);have e0:=Qq j 0;have e1:=Qq j 1;have e2:=Qq j 2;simp at e0 e1 e2;have E:=BX (A5 Q R j A p);clear Q R j A d I B o p;go_wp2_with fail;refine hf.mono ?_;rintro e w3⟨v3,rfl,C,X⟩;clear hf;obtain⟨T,F,rfl,_,_⟩:=C.form;have f:=X.heap E.out.qc id;have J:=X.heap E.out.qd id;have g0:=Qq f 0;have g1:=Qq f 1;have g2:=Qq f 2;have aE:=Qg f;simp at g0 g1 g2;obtain⟨W4,aB⟩:∃W4,w3.setCell ⟨w.heap.size,2,AI⟩ (.slice T (Ua x.set m).length F)=W4:=⟨_,rfl⟩;have S:Xy (·=w.heap.size) w3 (w3.setCell ⟨w.heap.size,2,AI⟩ (.slice T (Ua x.set m).length F)):=Qd _ _;have k:=Qz (i:=2) (u:=(.slice T (Ua x.set m).length F)) f;have o:Zn w3 (·=w.heap.size):=λc hc q=>by obtain⟨cs,fr,e⟩:=q;rw[show c=w.heap.size from hc,f]at e;simp at e
 have D:=C.keep o S;have p:=E.out.re;have g:=S.heap J (by show ¬w.heap.size+1=w.heap.size;omega);rw[aB]at S k D g;have p0:=Qq k 0;have p1:=Qq k 1;have p2:=Qq k 2;have q0:=Qq g 0;have q1:=Qq g 1;have q2:=Qq g 2;have aF:=Qg g;simp at p0 p1 p2 q0 q1 q2;have U:=BX (A4 X S g D);clear X S f J k C o p g D;go_wp2_with fail;have H:=U.out.qc;obtain⟨hZ,kZ⟩:=Rz (.int .u64 b) (.int .u64 x.width) (.slice T (Ua x.set m).length F) H;have z0:=Qq hZ 0;have z1:=Qq hZ 1;have z2:=Qq hZ 2;simp at z0 z1 z2;refine FC (v:=.agg #[.int .u64 b,.int .u64 x.width,.slice T (Ua x.set m).length F]) (by simp[FD,Tryz.results116,go_sem,z0,z1,z2]) rfl ?_;refine⟨_,rfl,⟨_,rfl,U.out.2.2.2.keep (Zn.block H (by decide)) kZ⟩,?_⟩;exact(((((z.out.1.then E.out.1).trans E.out.2.1 (λx hx e=>by omega)).then U.out.1).trans U.out.2.1 (λx hx e=>by omega)).trans kZ (λx hx e=>by omega))
theorem ZN(h:Nf w u x)(m:x.Ok)(n:Nat)(hn:n<4611686018427387904) :
  DJ Tryz.prog 66 #[u,.int .u64 n] w λe w'=>∃u',e=.returned u'/\Nf w' u' (x.put n)/\Xy No w w':=by
 obtain⟨ao,cap,rfl,A⟩:=h.form;have hp:=m.pre;obtain⟨W,I⟩:∃W,W=(w.alloc (.cells #[.int .u64 x.low,.int .u64 x.width,.slice ao x.set.length cap] 92)).alloc (.cells #[.int .u64 0,.int .u64 0,.slice AI 0 0] 92):=⟨_,rfl⟩;have P:Xy No w W:=by rw[I];exact((Xy.refl _ _).alloc _).alloc _
 have G:W.heap[w.heap.size]?=AF (.cells #[.int .u64 x.low,.int .u64 x.width,.slice ao x.set.length cap] 92 (0,0)):=by rw[I];exact((Xy.refl No _).alloc _).heap (Qy _ _) id
 have B:W.heap[w.heap.size+1]?=AF (.cells #[.int .u64 0,.int .u64 0,.slice AI 0 0] 92 (0,0)):=by rw[I];have:=Qy (w.alloc (.cells #[.int .u64 x.low,.int .u64 x.width,.slice ao x.set.length cap] 92)) (.cells #[.int .u64 0,.int .u64 0,.slice AI 0 0] 92);rw[FE]at this;exact this
 have Q:=Dw (h.no P) hp n;have c0:=Qq G 0;have c1:=Qq G 1;have c2:=Qq G 2;simp at c0 c1 c2;cases K:x.takes n
 ·rw[K]at Q;have e:x.put n=x:=by unfold Xn.put;rw[K];simp
  rw[e];have p:=BX (A4 P G B (A.no P));clear h A hp m P G B K e hn;go_enter Tryz.func66,Tryz.ntmps66;go_wp2_with fail;rw[<- I];clear I;go_wp2_with fail;refine Q.mono ?_;rintro e w1⟨rfl,C⟩;have d:=C.heap p.out.2.1 id;have g:=C.heap p.out.qc id;have d0:=Qq d 0;have d1:=Qq d 1;have d2:=Qq d 2;have q0:=Qq g 0;have q1:=Qq g 1;have q2:=Qq g 2;have fB:=Qg g;simp at d0 d1 d2 q0 q1 q2;have E:=BX (A2 C g);clear C d g Q;go_wp2_with fail;have B:=E.out.2;obtain⟨J,Y⟩:=Rz (.int .u64 x.low) (.int .u64 x.width) (.slice ao x.set.length cap) B;have Z:=Qq J 0;have z1:=Qq J 1;have z2:=Qq J 2;simp at Z z1 z2;refine FC (v:=.agg #[.int .u64 x.low,.int .u64 x.width,.slice ao x.set.length cap]) (by simp[FD,Tryz.results66,go_sem,Z,z1,z2]) rfl ?_;exact⟨_,rfl,⟨_,rfl,(p.out.2.2.2.no E.out.1).keep (Zn.block B (by decide)) Y⟩,(p.out.1.then E.out.1).trans Y (λx hx e=>by omega)⟩
 ·rw[K]at Q;have e:x.put n=(⟨x.low,x.width,Yq x.set n n⟩:Xn).closed:=by unfold Xn.put;rw[K];simp
  obtain⟨y,hy⟩:∃y,y=(⟨x.low,x.width,Yq x.set n n⟩:Xn).closed:=⟨_,rfl⟩;rw[e,<- hy];have HY:=BX hy;clear hy;obtain⟨t1,t2⟩:=(m.takes n).1 K;obtain⟨s1,s2⟩:=Oc (f:=n) (t:=n) m.set (by omega);have V:(Yq x.set n n).length<=268435456:=by
   have:=Uk.len (a:=0) (N:=x.low+x.width+1) s1 (λr A=>by
    refine⟨BW _,?_⟩;rcases(s2 _).1 (s1.last A)with a|a
    ·have:=(m.above _ a).2.1;omega
    ·omega)
   have h1:=Bl (x.set.drop (Yr x.set (n-1))) n n;have h2:=Xn.Ok.few m;have hw:=m.width;have h3:=Uk.len (a:=x.low) (N:=x.width+1) m.set (λr A=>by
    have h1:=m.above _ (m.set.first A);have h2:=m.above _ (m.set.last A)
    omega)
   have h4:=Hd x.set (n-1);unfold Yq;rw[if_neg (by omega),BO,List.length_take];rw[List.length_drop]at h1;omega
  have U:∀r∈Yq x.set n n,r.2<9223372036854775807:=λr A=>by
   rcases(s2 _).1 (s1.last A)with a|a
   ·have:=(m.above _ a).2.2;omega
   ·omega
  have j:=λ(w':AC) (k:Xy No W w')=>R1 ((A.no P).no k) m.set n hp.few (by omega);have D:=m.low;have p:=BX (A8 P G B s1 V D U j);clear h A hp m P G B K e hn s1 s2 t1 t2 V D U j;go_enter Tryz.func66,Tryz.ntmps66;go_wp2_with fail;rw[<- I];clear I;go_wp2_with fail;refine Q.mono ?_;rintro e w1⟨rfl,C⟩;have d:=C.heap p.out.2.1 id;have g:=C.heap p.out.qc id;have d0:=Qq d 0;have d1:=Qq d 1;have d2:=Qq d 2;simp at d0 d1 d2;have j:=p.out.rh w1 C;have E:=BX (A3 C d g);clear C d g Q;go_wp2_with fail;refine j.mono ?_;rintro e w2⟨v2,rfl,L,k2⟩;clear j;obtain⟨o2,F,rfl,_,_⟩:=L.form;have o:=k2.heap E.out.2.1 id;have S:=k2.heap E.out.2.2 id;have f0:=Qq o 0;have f1:=Qq o 1;have f2:=Qq o 2;have fA:=Qg o;simp at f0 f1 f2;obtain⟨W3,aA⟩:∃W3,w2.setCell ⟨w.heap.size,2,AI⟩ (.slice o2 (Yq x.set n n).length F)=W3:=⟨_,rfl⟩;have X:Xy (·=w.heap.size) w2 (w2.setCell ⟨w.heap.size,2,AI⟩ (.slice o2 (Yq x.set n n).length F)):=Qd _ _;have z:=Qz (i:=2) (u:=.slice o2 (Yq x.set n n).length F) o;have M:=L.keep (Zn.block o (by decide)) X;have aB:=Qt p.out.2.1;have H:=X.heap S (by show ¬w.heap.size+1=w.heap.size;omega);rw[aA]at X z M H;have p0:=Qq z 0;have p1:=Qq z 1;have p2:=Qq z 2;simp at p0 p1 p2;have hc:=Pw (w:=W3) (x:=⟨x.low,x.width,Yq x.set n n⟩) ⟨_,rfl,M⟩ p.out.qd p.out.qe p.out.qf p.out.qg;have H2:=BX (A3 k2 X H);clear k2 X H z o S L M;go_wp2_with fail;refine hc.mono ?_;rintro e w4⟨u4,rfl,O,k4⟩;clear hc;rw[<- HY.out]at O;obtain⟨o4,R,rfl,T⟩:=O.form;have q:=k4.heap H2.out.2.2 id;have q0:=Qq q 0;have q1:=Qq q 1;have q2:=Qq q 2;have fB:=Qg q;simp at q0 q1 q2;have H3:=BX (A3 k4 q T);clear q k4 T O;go_wp2_with fail;have B:=H3.out.2.1;obtain⟨J,Y⟩:=Rz (.int .u64 y.low) (.int .u64 y.width) (.slice o4 y.set.length R) B;have Z:=Qq J 0;have z1:=Qq J 1;have z2:=Qq J 2;simp at Z z1 z2;refine FC (v:=.agg #[.int .u64 y.low,.int .u64 y.width,.slice o4 y.set.length R]) (by simp[FD,Tryz.results66,go_sem,Z,z1,z2]) rfl ?_;refine⟨_,rfl,⟨_,rfl,H3.out.2.2.keep (Zn.block B (by decide)) Y⟩,?_⟩;exact((((p.out.1.then E.out.1).then H2.out.1).trans H2.out.2.1 (λx hx e=>by omega)).then H3.out.1).trans Y (λx hx e=>by omega)
end
end Go.Proofs.YtfdmbomlkpkegaaGreat
