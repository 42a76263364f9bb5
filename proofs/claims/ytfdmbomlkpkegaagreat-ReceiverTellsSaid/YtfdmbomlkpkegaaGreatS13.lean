/- Lemmas. -/
import Derived.Deep.DeepCutAuto
import Derived.Deep.CutBlock
import Derived.Test.YtfdmbomlkpkegaaGreatS5
set_option maxRecDepth 100000
set_option maxHeartbeats 8000000
set_option linter.all false
set_option autoImplicit true
set_option relaxedAutoImplicit true
open Go renaming World->AC
open Go.IntKind renaming wrap_u64->F0
open Nat renaming le_refl->BE
namespace Go.Proofs.YtfdmbomlkpkegaaGreat
open Go Go.RowKit Go.Dr
theorem UB{l:Qs}(h:l[j]?=some x):takeN (l.drop j)=x.toNat+256*takeN (l.drop (j+1)):=by obtain⟨d,f⟩:=List.getElem?_eq_some_iff.1 h;rw[List.drop_eq_getElem_cons d,f];rfl
theorem UA(h:m<4294967296):takeN (layB m 4)=m:=by rw[Uf];exact Nat.mod_eq_of_lt h
theorem Cl[bn:Ib](h:Qv base w v l)(L:l.length<=8) :
  Calls Tryz.prog 206 #[v] w λe I=>e=.returned (.int .u64 (takeN l:Nat))/\I=w:=by
 obtain⟨ao,cap,rfl,K,M,N,d⟩:=h;have C:(l.length:Int)<=8:=by omega
 go_enter Tryz.func206,Tryz.ntmps206;go_wp2
 go_loop [3,4] (λs i=>∃j:Nat,j<=l.length/\i=.int .i64 ((j:Int)-1)/\s=.int .u64 (takeN (l.drop j):Nat)) (λ_ i=>(intOf i+1).toNat)
 case atStart=>exact⟨l.length,BE _,by go_num,by simp[takeN]⟩
 case round =>
  obtain⟨j,p,rfl,rfl⟩:=hrel;rcases j with _|j
  ·have o:¬(0:Int)<=((0:Nat):Int)-1:=by decide
   go_wp2;go_ret;exact⟨rfl,rfl⟩
  ·have g:((j+1:Nat):Int)-1=(j:Int):=by omega
   have B:(0:Int)<=(j:Int):=by omega
   have f:l[j]?=some l[j]:=List.getElem?_eq_getElem (by omega);obtain⟨J,rfl,A,n⟩:=d j _ f;have k:=UB f;have m:=VU (l.drop (j+1));rw[List.length_drop]at m;have q:2^(8*(l.length-(j+1)))<=2^56:=Nat.pow_le_pow_right (by decide) (by omega);have m:=Nat.lt_of_lt_of_le m q;clear q;have F:=l[j].toNat_lt;generalize l[j]=x at *;generalize takeN (l.drop (j+1))=t at *;unfold u8v at n;have D:IntKind.u64.wrap (256*(t:Int))=((256*t:Nat):Int):=by rw[F0];omega
   have E:IntKind.u64.wrap (256*(t:Int)+(x.toNat:Int))=((takeN (l.drop j):Nat):Int):=by rw[k,F0];omega
   have o:(j:Int)<(l.length:Int):=by omega
   have G:(x.toNat:Int)<256:=by omega
   have H:IntKind.u64.wrap (x.toNat:Int)=(x.toNat:Int):=by rw[F0];omega
   rw[g];have z:=Lib.hid p;clear k m F f d p g;go_wp2
   go_round
   case rel=>exact⟨j,by have:=z.out;omega,by go_num,by rfl⟩
   case measure=>simp[intOf]
theorem X5[bn:Ib](h:Qv base w g a) :
  Zb base (w.alloc (.cells #[g] 59)) (.slice (some ⟨w.heap.size,0,none⟩) 1 1) [a]:=by
 have j:Xy No w (w.alloc (.cells #[g] 59)):=(Xy.refl _ _).alloc _;exact Zb.of_block (Qy w _) [a] rfl (by simp[maxLen]) (λi u l d f=>by
  match i,d,f with
  | 0,d,f=>simp at d f;subst d f;exact h.no j)
theorem JA[bn:Ib](h:Qv base w v (Ye t))(N:ban.top<=w.heap.size)(Q:t.length<=1000) :
  Calls Tryz.prog 205 #[v] w λe f=>∃M,e=.returned (.tuple #[M,.int .i64 0])/\Kr f w.heap.size M t/\Xy No w f:=by
 obtain⟨ao,cap,rfl⟩:=h.form;have D:=Fg t;have d:(Ye t).length<=cap/\cap<=maxLen:=by obtain⟨_,_,L,V,W,_⟩:=h;simp at L;omega
 unfold maxLen at d;obtain⟨X,U,A,i⟩:=Rg ao (Ye t).length cap t.length t.length rfl (by omega) d.1;have E:((Ye t).take (Ye t).length).drop t.length=layB (moreN 0 t) 4:=by rw[List.take_of_length_le (BE _)];unfold Ye;exact List.drop_left' rfl
 have F:(Ye t).take t.length=t:=by unfold Ye;exact List.take_left' rfl
 have o:=i base w _ h;rw[E]at o;have B:=h.take t.length (by omega);rw[F]at B;have g:=λ(f:AC) (k:Xy No w f)=>Cl (o.no k) (by rw[Zu];decide);have J:=Kc 0 t;rw[UA (by exact J)]at g;have j:=λ(f:AC) (k:Xy No w f)=>Wp (B.no k);have z:(Ye t).length-t.length=4:=by omega
 have I:=λ(f:AC) (k:Xy No w f)=>Xv (X5 (B.no k)) (by simp;omega);have P:((Ye t).length:Int)-4=(t.length:Int):=by omega
 have O:¬((Ye t).length:Int)<4:=by omega
 have G:(t.length:Int)<=(cap:Int):=by omega
 have H:(t.length:Int)<=1000:=by omega
 generalize moreN 0 t=m at *;have R:IntKind.u64.wrap (m:Int)=(m:Int):=by rw[F0];omega
 rw[z]at A g;have C:=Lib.hid (A3 g j I);clear g j I J h o B E F z i d Q D;generalize (Ye t).length=q at *;go_enter Tryz.func205,Tryz.ntmps205;go_upto_region 4 with fail;refine Ql (λf=>Xy No w f) [0,1,2,4,5,6] [3,7] [8,9] (by kernel_rfl) (by kernel_rfl) (λ_ _ _ _ _ h=>h) (Xy.refl _ _).drew ?_;have kd:Xy No w w.drew:=(Xy.refl _ _).drew;iterate 6(refine Qk (v:=?_) rfl rfl rfl ?_ ?_;rotate_left;focus(
  intro f L;go_simp
  try with_reducible rfl))
 refine Qj ?_;refine Qx rfl rfl (λK p=>?_);go_simp;refine(C.out.1 _ kd).mono ?_;rintro e T⟨rfl,rfl⟩;refine p _ _ kd ?_;clear p K;refine Qx rfl rfl (λK p=>?_);go_simp;refine(C.out.2.1 _ kd).mono ?_;rintro e T⟨rfl,rfl⟩;refine p _ _ kd ?_;clear p K;refine Qh (Qu rfl (Qu rfl (Qm ?_)));go_wp2_with(go_at_call 97;refine(C.out.2.2 _ kd).mono ?_;rintro e Z ⟨Y,rfl,n,S⟩);go_ret2;refine⟨_,rfl,?_,(kd.alloc _).then S⟩;have e:[t].flatten=t:=by simp
 rw[e]at n;exact n.mono (kd.alloc _).size
end Go.Proofs.YtfdmbomlkpkegaaGreat
