/- Lemmas. -/
import Derived.Test.YtfdmbomlkpkegaaGreatS6
set_option maxRecDepth 100000
set_option maxHeartbeats 8000000
set_option linter.all false
set_option autoImplicit true
set_option relaxedAutoImplicit true
open Go.Lib renaming hid->BX
open Go.World renaming size_alloc->FE
namespace Go.Proofs.YtfdmbomlkpkegaaGreat
open Go Go.RowKit
theorem Oa(h:Nf w u x)(A:x.Pre)(H:∀r∈x.set,r.2<9223372036854775807)(b:Nat)(p:b<=4611686018427387904) :
  Calls Tryz.prog 64 #[u,.int .u64 b] w λe R=>∃Q,e=.returned Q/\Nf R Q (x.skip b)/\Xy No w R:=by
 obtain⟨ao,cap,rfl,C⟩:=h.form;have g:=A.low;obtain⟨a,N⟩:∃a,a=x.low+1:=⟨_,rfl⟩;have T:IntKind.u64.wrap ((x.low:Int)+1)=(a:Int):=by rw[wraps_u64 _ (by omega) (by omega)];omega
 by_cases O:b<=a
 ·have e:x.skip b=x:=by unfold Xn.skip;rw[if_pos (by omega)]
  rw[e];have I:(b:Int)<=(a:Int):=by omega
  have j:Xy No w ((w.alloc (.cells #[.int .u64 x.low,.int .u64 x.width,.slice ao x.set.length cap] 92)).alloc (.cells #[.int .u64 x.low,.int .u64 x.width,.slice ao x.set.length cap] 92)):=((Xy.refl _ _).alloc _).alloc _;have f:=Qy (w.alloc (.cells #[.int .u64 x.low,.int .u64 x.width,.slice ao x.set.length cap] 92)) (.cells #[.int .u64 x.low,.int .u64 x.width,.slice ao x.set.length cap] 92);rw[FE]at f;have D:=Qq f 0;have E:=Qq f 1;have F:=Qq f 2;simp at D E F;have k:=BX (A2 j (C.no j));clear h C A g O e f j N p H;go_enter Tryz.func64,Tryz.ntmps64;go_wp2_with fail;refine bodyPost_ret (v:=.agg #[.int .u64 x.low,.int .u64 x.width,.slice ao x.set.length cap]) (by simp[results,Tryz.results64,go_sem]) rfl ?_;exact⟨_,rfl,⟨_,rfl,k.out.2⟩,k.out.1⟩
 ·have e:x.skip b=(⟨b-1,x.width,x.set⟩:Xn).closed:=by unfold Xn.skip;rw[if_neg (by omega)]
  obtain⟨y,J⟩:∃y,y=(⟨b-1,x.width,x.set⟩:Xn).closed:=⟨_,rfl⟩;rw[e,<- J];have M:=BX J;have I:¬(b:Int)<=(a:Int):=by omega
  obtain⟨c,q⟩:∃c,c=b-1:=⟨_,rfl⟩;have U:IntKind.u64.wrap ((b:Int)-1)=(c:Int):=by rw[wraps_u64 _ (by omega) (by omega)];omega
  rw[<- q]at M;obtain⟨W,o⟩:∃W,W=(w.alloc (.cells #[.int .u64 c,.int .u64 x.width,.slice ao x.set.length cap] 92)).alloc (.cells #[.int .u64 0,.int .u64 0,.slice none 0 0] 92):=⟨_,rfl⟩;have L:Xy No w W:=by rw[o];exact((Xy.refl _ _).alloc _).alloc _
  have S:W.heap[w.heap.size]?=some (.cells #[.int .u64 c,.int .u64 x.width,.slice ao x.set.length cap] 92 (0,0)):=by rw[o];exact((Xy.refl No _).alloc _).heap (Qy _ _) id
  have n:W.heap[w.heap.size+1]?=some (.cells #[.int .u64 0,.int .u64 0,.slice none 0 0] 92 (0,0)):=by rw[o];have:=Qy (w.alloc (.cells #[.int .u64 c,.int .u64 x.width,.slice ao x.set.length cap] 92)) (.cells #[.int .u64 0,.int .u64 0,.slice none 0 0] 92);rw[FE]at this;exact this
  have z:=Pw (w:=W) (x:=⟨c,x.width,x.set⟩) ⟨_,rfl,C.no L⟩ A.set A.few (by show c<_;omega) H;have k:=BX (A2 L n);clear h C A g O e N p H L S n q J;go_enter Tryz.func64,Tryz.ntmps64;go_wp2_with fail;rw[<- o];clear o;refine z.mono ?_;rintro e w4⟨u4,rfl,i,K⟩;clear z;rw[<- M.out]at i;obtain⟨P,m,rfl,B⟩:=i.form;have d:=K.heap k.out.2 id;have V:=Qq d 0;have X:=Qq d 1;have Y:=Qq d 2;have Z:=Qg d;simp at V X Y;have G:=BX (A3 K d B);clear d K B i;go_wp2_with fail;have n:=G.out.2.1;obtain⟨f,j⟩:=Rz (.int .u64 y.low) (.int .u64 y.width) (.slice P y.set.length m) n;have D:=Qq f 0;have E:=Qq f 1;have F:=Qq f 2;simp at D E F;refine bodyPost_ret (v:=.agg #[.int .u64 y.low,.int .u64 y.width,.slice P y.set.length m]) (by simp[results,Tryz.results64,go_sem,D,E,F]) rfl ?_;refine⟨_,rfl,⟨_,rfl,G.out.2.2.keep (Zn.block n (by decide)) j⟩,?_⟩;exact(k.out.1.then G.out.1).trans j (λx hx e=>by omega)
theorem Lm(n:Nf w ua x)(o:Nf w ub y)(j:x.set.length<=268435456)(k:y.set.length<=268435456) :
  Calls Tryz.prog 42 #[ua,ub] w λe z=>e=.returned (.bool (decide (x=y)))/\Xy No w z:=by
 obtain⟨ao,E,rfl,f⟩:=n.form;obtain⟨G,F,rfl,g⟩:=o.form;have h:Xy No w ((w.alloc (.cells #[.int .u64 x.low,.int .u64 x.width,.slice ao x.set.length E] 92)).alloc (.cells #[.int .u64 y.low,.int .u64 y.width,.slice G y.set.length F] 92)):=((Xy.refl _ _).alloc _).alloc _;have i:=UH (f.no h) (g.no h) j k;obtain⟨bb,d⟩:∃bb,bb=decide (x=y):=⟨_,rfl⟩;rw[<- d];have p:=BX h;obtain⟨A,B,xs⟩:=x;obtain⟨C,D,J⟩:=y;simp only at i j k;by_cases m:A=C
 ·by_cases q:B=D
  ·subst m q;have e:decide (xs=J)=bb:=by rw[d];simp
   rw[e]at i;clear n o f g h j k d e;go_enter Tryz.func42,Tryz.ntmps42;go_wp2_with(go_at_call 92;refine i.mono ?_;rintro e z ⟨rfl,I⟩);go_ret;exact⟨rfl,p.out.then I⟩
  ·have H:((B:Int)==(D:Int))=false:=by simp;omega
   obtain rfl:bb=false:=by rw[d];simp[q]
   subst m;clear n o f g h j k d i q;go_enter Tryz.func42,Tryz.ntmps42;go_wp2_with fail;go_ret;exact⟨rfl,p.out⟩
 ·have H:((A:Int)==(C:Int))=false:=by simp;omega
  obtain rfl:bb=false:=by rw[d];simp[m]
  clear n o f g h j k d i m;go_enter Tryz.func42,Tryz.ntmps42;go_wp2_with fail;go_ret;exact⟨rfl,p.out⟩
end Go.Proofs.YtfdmbomlkpkegaaGreat
