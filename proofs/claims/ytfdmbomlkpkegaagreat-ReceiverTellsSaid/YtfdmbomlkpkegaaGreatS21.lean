/- Lemmas. -/
import Derived.Test.YtfdmbomlkpkegaaGreatS20
import Derived.Test.YtfdmbomlkpkegaaGreatS12
set_option maxRecDepth 100000
set_option maxHeartbeats 8000000
set_option linter.all false
set_option autoImplicit true
set_option relaxedAutoImplicit true
open Bool renaming false_eq_true->FH
open Go renaming Value->AM,World->AC
open Go.IntWalk renaming i64_in->EM
open Go.Lib renaming hid->BX
open Go.Value renaming ownBlock->DK
open List renaming append_assoc->B7,concat_eq_append->O3,eq_nil_or_concat->O2,flatten_cons->OD,getElem?_eq_some_iff->BK,length_append->BO,length_map->D6,length_take->E9,mem_append->CG,mem_map->CP,mem_singleton->AZ,take_append_of_le_length->E2,take_length->BZ,take_of_length_le->DU,take_take->OE
open Max renaming max->OC
open Nat renaming le_of_lt->FX,le_refl->BE,le_trans->BF,min_eq_left->EA,min_eq_right->OF,min_self->OG,zero_add->CI
open Option renaming none->AI,some->AF
namespace Go.Proofs.YtfdmbomlkpkegaaGreat
section
open Go Go.RowKit Go.Dr
theorem R7.byX[bn:Ib]{base:Nat}{w z:AC}{q:Nat}{v lv:AM}{ss:List Jh}{x:Qn}(h:R7 base w v ss)(o:Zs base w q lv x)(C:Xy (·=q) w z):R7 base z v ss:=by
 have k:Xy (λb=>b=q\/lv.ownBlock=AF b) w z:=C.mono (λ_ _ e=>.inl e);obtain⟨ps,B,g⟩:=h;refine⟨ps,B,⟨λy A=>(g.recs y A).keep o.foot k (λb j m=>?_),Yu g.row k (λb j m=>?_)⟩⟩
 ·obtain⟨us,_,_,n⟩:=g.recs y A;obtain⟨_,i,p⟩:=Qa n b j;obtain⟨_,cs,t,d,f⟩:=o.kind m;rw[p]at d;simp at d;obtain⟨_,rfl⟩:=d;rcases f with f|f<;>simp at f
 ·obtain⟨_,i,p⟩:=Qa g.row b j;obtain⟨_,cs,t,d,f⟩:=o.kind m;rw[p]at d;simp at d;obtain⟨_,rfl⟩:=d;rcases f with f|f<;>simp at f
def U5 [bn:Ib](base:Nat)(w:AC)(q:Nat)(lv:AM)(next:Nat)(X:Qn×Int)(e:Ending)(f:AC):Prop :=
 ∃d,e=.returned (.tuple #[.int .u64 (if X.2=0 then(next:Int)else 0),.int .i64 X.2])/\Zs base f q d X.1/\Xy (·=q) w f/\∀b,d.ownBlock=AF b->lv.ownBlock=AF b\/w.heap.size<=b
theorem Md(x:Qn)(n:Int)(B:Qs):((x.append n B).1=x/\(x.append n B).2=5)\/(x.append n B).2=0:=by
 unfold Qn.append
 split
 ·exact .inl ⟨rfl,rfl⟩
 ·split
  ·exact .inl ⟨rfl,rfl⟩
  ·exact .inr rfl
theorem QQ[bn:Ib](h:Zs base w q lv x)(z:base<=w.heap.size)(hT:ban.top<=w.heap.size)(hl:x.l.length<=1000)(hs:Ri x.l<=1099511627776)(hm:segs6 x.l=Gt ss)(ho:Hs ss)(hn:∀s∈ss,0<=s.n/\s.n<=1000000)(size:Int)(hp:Qv base w pv p)(aC:p.length<=1048576)(aE:OC (Zz 0 ss) 1<=4611686018427387904) :
  Calls Tryz.prog 96 #[.pointer (AF ⟨q,0,AI⟩),.int .i64 size,pv] w (U5 base w q lv (OC (Zz 0 ss) 1) (x.append (Uj (Ku size ss)).n (appB (Ku size ss) p))):=by
 obtain⟨po,pc,rfl⟩:=hp.form;have aF:¬((1048576:Int)<(p.length:Int)):=by omega
 have aD:=Lh h z hT hl hs hm ho;have O:=λ(G:AC) (k:Xy No w G)=>Pg (hp.no k) (BF hT k.size) (by omega);have A:=λ(G:AC) (v:AM) (I:R7 base G v ss)=>XO I (by have:=ho.few;omega) size hn;have D:=λ(G:AC) (v:AM) (I:R7 base G v ss)=>UG I ho;have N:=λ(G:AC) (u:AM) (B:Qs) (k:Xy No w G) (hu:Qv base G u B) (hB:B.length<=1099511627776)=>XA (h.no k) (BF z k.size) hl hs (Uj (Ku size ss)).n hu hB;obtain⟨Z,S⟩:∃Z,Hi size ss=Z:=⟨_,rfl⟩;rw[S]at A;have hB:appB (Ku size ss) p=if Z then Xt (OC (Zz 0 ss) 1)++recB p else recB p:=by unfold appB;rw[show Jk (Ku size ss) (Ke (Ku size ss))=Z from S];rfl
 rw[hB];generalize (Uj (Ku size ss)).n=sn at *;generalize OC (Zz 0 ss) 1=W at *;have C:=λ(G:AC) (k:Xy No w G)=>UK (w:=G) (BF hT k.size) W (by omega);have H:=BX (A5 h hp aC z hT);have o:=BX (A6 aD O A D N C);clear h hp z hT hl hs hm ho hn aD O A D N C aC S hB aE;cases Z with
 | false =>
  simp only[FH,if_false];have d:=Md x sn (recB p);generalize hX:x.append sn (recB p)=X at d⊢;obtain⟨x',c⟩:=X;dsimp only at d;have HX:=BX hX;clear hX;unfold U5;dsimp only;rcases d with⟨rfl,rfl⟩|rfl;all_goals
   go_enter Tryz.func96,Tryz.ntmps96;go_upto_region 8 with(first
    | (go_at_call 148;refine(o.out.qc _ _ g).mono ?_;rintro e w3 ⟨rfl,L⟩)
    | (go_at_call 147;refine(o.out.2.1 _ K).mono ?_;rintro e w2 ⟨v2,rfl,f,U⟩;have g:=I.no U)
    | (go_at_call 125;refine o.out.1.mono ?_;rintro e w1 ⟨v1,rfl,I,_,K⟩))
   have aA:=f.bytes (base:=base) (λ_=>BF H.out.re K.size);have m:=(K.then U).then L;have J:=o.out.qe _ _ _ m (aA.no L) (by rw[Zl];have:=H.out.qc;omega);have R:=g.no L;clear f aA g I;rw[HX.out]at J;dsimp only at J
  ·go_wp2_with(go_at_call 151;refine J.mono ?_;rintro e w7 ⟨rfl,j,i,M,V⟩);go_ret2;exact⟨rfl,j,i,m.no.trans M (λ_ _ e=>e),λb z=>(V b z).imp id (λh=>BF m.size h)⟩
  ·go_upto_region 11 with(go_at_call 151;refine J.mono ?_;rintro e w7 ⟨rfl,j,i,M,V⟩);have Q:=R.byX (H.out.1.no m) M;go_wp2_with(go_at_call 150;refine(o.out.qd _ _ Q).mono ?_;rintro e w8 ⟨rfl,k8⟩);go_ret2;exact⟨rfl,j,i.no k8,(m.no.trans M (λ_ _ e=>e)).then k8,λb z=>(V b z).imp id (λh=>BF m.size h)⟩
 | true =>
  simp only[if_true];have d:=Md x sn (Xt W++recB p);generalize hX:x.append sn (Xt W++recB p)=X at d⊢;obtain⟨x',c⟩:=X;dsimp only at d;have HX:=BX hX;clear hX;unfold U5;dsimp only;rcases d with⟨rfl,rfl⟩|rfl;all_goals
   go_enter Tryz.func96,Tryz.ntmps96;go_upto_region 8 with(first
    | (go_at_call 97;refine(Xv (Ko b5 Y) (by rw[OD,OD,List.flatten_nil,List.append_nil,BO,Zr,Zl];have:=H.out.qc;omega)).mono ?_;rintro e w6 ⟨v6,rfl,F,k6⟩)
    | (go_at_call 149;refine(o.out.rf _ (((K.then U).then L).then k4)).mono ?_;rintro e w5 ⟨v5,rfl,E,k5⟩;obtain⟨o5,c5,rfl⟩:=E.form;have b5:=E.bytes (base:=base) (λ_=>BF H.out.re (((K.then U).then L).then k4).size);have Y:=b2.no ((L.then k4).then k5))
    | (go_at_call 150;refine(o.out.qd _ _ P).mono ?_;rintro e w4 ⟨rfl,k4⟩)
    | (go_at_call 148;refine(o.out.qc _ _ g).mono ?_;rintro e w3 ⟨rfl,L⟩;have P:=g.no L)
    | (go_at_call 147;refine(o.out.2.1 _ K).mono ?_;rintro e w2 ⟨v2,rfl,f,U⟩;have g:=I.no U;obtain⟨o2,c2,rfl⟩:=f.form;have b2:=f.bytes (base:=base) (λ_=>BF H.out.re K.size))
    | (go_at_call 125;refine o.out.1.mono ?_;rintro e w1 ⟨v1,rfl,I,_,K⟩))
   have e6:[Xt W,recB p].flatten=Xt W++recB p:=by simp
   rw[e6]at F;have kA:=(Xy.refl No w5).alloc (.cells #[.slice o5 (Xt W).length c5,.slice o2 (recB p).length c2] 59);have T:=((((K.then U).then L).then k4).then k5).then kA;have m:=T.then k6;have aB:=F.bytes (base:=base) (λ_=>BF H.out.re T.size);have J:=o.out.qe _ _ _ m aB (by rw[BO,Zr,Zl];have:=H.out.qc;omega);have R:=P.no (((k4.then k5).then kA).then k6);clear F E f b5 Y b2 g I P aB e6 T;rw[HX.out]at J;dsimp only at J
  ·go_wp2_with(go_at_call 151;refine J.mono ?_;rintro e w7 ⟨rfl,j,i,M,V⟩);go_ret2;exact⟨rfl,j,i,m.no.trans M (λ_ _ e=>e),λb z=>(V b z).imp id (λh=>BF m.size h)⟩
  ·go_upto_region 11 with(go_at_call 151;refine J.mono ?_;rintro e w7 ⟨rfl,j,i,M,V⟩);have Q:=R.byX (H.out.1.no m) M;go_wp2_with(go_at_call 150;refine(o.out.qd _ _ Q).mono ?_;rintro e w8 ⟨rfl,k8⟩);go_ret2;exact⟨rfl,j,i.no k8,(m.no.trans M (λ_ _ e=>e)).then k8,λb z=>(V b z).imp id (λh=>BF m.size h)⟩
end
section
open Go Go.RowKit
structure Good (j:Nat)(l:List Qf)(ss:List Jh):Prop where
 ok:∀s∈ss,s.Ok
 pos:∀s∈ss,1<=s.n/\s.n<=(j:Int)
 chain:∀(i:Nat) s,ss[i]?=AF s->s.headed=true->Zz 0 (ss.take i)=0\/s.first=Zz 0 (ss.take i)
 map:segs6 l=Gt ss
 next:OC (Zz 0 ss) 1<=j+1
 recs:(Qw ss).length+1<=OC (Zz 0 ss) 1
 len:l.length+ss.length<=2*j
 sum:Ri l<=1100*j
theorem Good.nil:Good 0 [] []:=⟨by simp,by simp,by simp,rfl,by decide,by decide,by decide,by decide⟩
theorem Good.mono(h:Good j l ss)(f:j<=k):Good k l ss :=
 ⟨h.ok,λs d=>by have:=h.pos s d;omega,h.chain,h.map,by have:=h.next;omega,h.recs,by have:=h.len;omega,by have:=h.sum;omega⟩
theorem Good.sorted(h:Good j l ss):Kd (Gt ss):=by rw[<- h.map];exact Ve l
theorem Uy(d:List Jh)(s:Jh):Gt (d++[s])=Gt d++[(s.n,s.bytes)]:=by simp[Gt]
theorem Good.below(h:Good j l (d++[g])):∀e∈Gt d,e.1<g.n:=by have f:=h.sorted;rw[Uy]at f;unfold Kd at f;rw[List.pairwise_append]at f;exact λe i=>f.2.2 e i (g.n,g.bytes) (AZ.2 rfl)
theorem Yh(ss:List Jh)(s:Jh):Zz 0 (ss++[s])=if s.headed then s.first+s.recs.length else Zz 0 ss:=by rw[Ky];rfl
theorem Yx(ss:List Jh)(s:Jh):Qw (ss++[s])=Qw ss++s.recs:=by rw[Xp];simp[Qw]
theorem Good.putNew(h:Good j l ss)(s:Jh)(m:s.Ok)(k:∀e∈Gt ss,e.1<s.n)(p:1<=s.n)(q:s.n<=(j:Int)+1)(g:s.headed=true->s.first=OC (Zz 0 ss) 1)(A:s.recs.length<=1)(w:s.bytes.length<=1100):Good (j+1) (l++[⟨s.n,s.bytes,false⟩]) (ss++[s]):=by
 have z:=h.next;have o:=h.recs;refine⟨λt d=>?_,λt d=>?_,λi t d f=>?_,?_,?_,?_,?_,?_⟩
 ·rcases CG.1 d with d|d
  ·exact h.ok t d
  ·rw[AZ.1 d];exact m
 ·rcases CG.1 d with d|d
  ·have:=h.pos t d;omega
  ·rw[AZ.1 d];omega
 ·rcases Jy d with d|⟨rfl,rfl⟩
  ·have:=(BK.1 d).1;rw[Kt (by omega)];exact h.chain i t d f
  ·rw[Kt (BE _),BZ];have:=g f;omega
 ·rw[Gv,h.map,SU s.bytes k,Uy]
 ·rw[Yh];cases f:s.headed with
  | true=>have:=g f;simp only[if_true];omega
  | false=>simp only[FH,if_false];omega
 ·rw[Yh,Yx,BO];cases f:s.headed with
  | true=>have:=g f;simp only[if_true];omega
  | false=>rw[(m.bare f).1];simp only[FH,if_false,List.length_nil];omega
 ·have:=h.len;simp;omega
 ·rw[Um];have:=h.sum;dsimp only;omega
theorem Good.putLast(p:Qs)(h:Good j l (k++[f]))(H:sl'.Ok)(C:sl'.n=f.n)(q:f.headed=true)(B:sl'.headed=true)(w:sl'.first=f.first)(D:sl'.bytes=f.bytes++p)(G:sl'.recs=f.recs++ex)(E:ex.length<=1)(I:p.length<=1100):Good (j+1) (l++[⟨f.n,p,false⟩]) (k++[sl']):=by
 have A:=h.below;have m:=h.next;have g:=h.recs;rw[Yh,q]at m g;rw[Yx,BO]at g;simp only[if_true]at m g;have o:sl'.recs.length=f.recs.length+ex.length:=by rw[G,BO]
 have F:=((h.ok f (by simp)).head q).1;refine⟨λt d=>?_,λt d=>?_,λi t d z=>?_,?_,?_,?_,?_,?_⟩
 ·rcases CG.1 d with d|d
  ·exact h.ok t (by simp[d])
  ·rw[AZ.1 d];exact H
 ·rcases CG.1 d with d|d
  ·have:=h.pos t (by simp[d]);omega
  ·rw[AZ.1 d,C];have:=h.pos f (by simp);omega
 ·rcases Jy d with d|⟨rfl,rfl⟩
  ·have hi:=(BK.1 d).1;have:=h.chain i t (by rw[List.getElem?_append_left hi];exact d) z;rw[Kt (by omega)]at this⊢;exact this
  ·have:=h.chain k.length f (by simp) q;rw[Kt (BE _)]at this⊢;rw[w];exact this
 ·rw[Gv,h.map,Uy,UW _ _ A,Uy,C,D]
 ·rw[Yh,B,w,o];simp only[if_true];omega
 ·rw[Yh,Yx,B,w,BO,o];simp only[if_true];omega
 ·have:=h.len;simp at this⊢;omega
 ·rw[Um];have:=h.sum;dsimp only;omega
theorem Good.append(h:Good j l ss)(size:Int)(p:Qs)(hp:p.length<=1000)(hj:j<=1000000) :
  ∃ss',Good (j+1) (l++[⟨(Uj (Ku size ss)).n,appB (Ku size ss) p,false⟩]) ss'/\(Ku size ss).append p=Ku size ss'/\Qw ss'=Qw ss++[p] /\
   ∀t,0<t->t<(appB (Ku size ss) p).length->∃g,Good (j+1) (l++[⟨(Uj (Ku size ss)).n,(appB (Ku size ss) p).take t,false⟩]) g/\Qw g=Qw ss/\OC (Zz 0 g) 1=OC (Zz 0 ss) 1:=by
 have W:=h.next;obtain⟨i,o⟩:∃i,OC (Zz 0 ss) 1=i:=⟨_,rfl⟩;have T:(Ku size ss).next=i:=o;rw[o]at W;have H:1<=i:=by omega
 cases m:Jk (Ku size ss) (Ke (Ku size ss))with
 | true =>
  have N:appB (Ku size ss) p=Xt i++recB p:=by unfold appB;rw[m,T];rfl
  have O:Uj (Ku size ss)=Xh (Ku size ss):=by unfold Uj;rw[m];rfl
  obtain⟨sn,F⟩:∃sn,(Uj (Ku size ss)).n=sn:=⟨_,rfl⟩;have hN:(∀e∈Gt ss,e.1<sn)/\1<=sn/\sn<=(j:Int)+1:=by
   rw[<- F,O];rcases O2 ss with rfl|⟨f,d,rfl⟩
   ·refine⟨(λe G=>by cases G),(by show(1:Int)<=1;omega),(by show(1:Int)<=_;omega)⟩
   ·rw[O3]at h⊢;have hb:=h.below;have aB:=h.pos d (by simp);have e:(Xh (Ku size (f++[d]))).n=d.n+1:=by unfold Xh;rw[Uc];rfl
    rw[e];refine⟨λe G=>?_,by omega,by omega⟩;rw[Uy]at G;rcases CG.1 G with G|G
    ·have:=hb e G;omega
    ·rw[AZ.1 G];show d.n<d.n+1;omega
  obtain⟨I,K,L⟩:=hN;have V:(Xt i++recB p).length<=1100:=by rw[BO,Zr,Zl];omega
  let s:Jh:={n:=sn,first:=i,headed:=true,recs:=[p],tail:=[]}
  have z:s.bytes=appB (Ku size ss) p:=by rw[N];show Xt i++(Xx [p]++[])=_;simp[Xx]
  have M:s.Ok:=⟨λ_=>⟨H,by show i<_;omega,λr E=>by rw[AZ.1 E];omega,NN⟩,λw=>(by cases w)⟩;have C:=h.putNew s M I K L (λ_=>o.symm) (by simp[s]) (by rw[z,N];exact V);refine⟨ss++[s],?_,?_,by rw[Yx],λt h0 R=>?_⟩
  ·rw[F,<- z];exact C
  ·unfold Gi.append;rw[m,O];have Z:{Xh (Ku size ss)with count:=(Xh (Ku size ss)).count+1,size:=(Xh (Ku size ss)).size+(appB (Ku size ss) p).length}=s.view:=by
    have e1:(Xh (Ku size ss)).n=s.n:=by rw[<- O,F]
    have e2:(Xh (Ku size ss)).first=s.first:=T;unfold Jh.view;rw[z];show Nc.mk (Xh (Ku size ss)).n (Xh (Ku size ss)).first (0+1) (0+(appB (Ku size ss) p).length) true true=Nc.mk s.n s.first 1 _ true true;rw[e1,e2,CI,CI]
   rw[Z];show(Gi.mk _ _ _ _)=Gi.mk _ _ _ _;congr 1
   ·simp[Ku,Kv]
   ·show Qw ss++[p]=Qw (ss++[s]);rw[Yx]
   ·show(Ku size ss).next+1=OC (Zz 0 (ss++[s])) 1;rw[T,Yh];show i+1=OC (i+1) 1;omega
  ·rw[N]at R⊢;rw[F];have S:((Xt i++recB p).take t).length<=1100:=by rw[E9];omega
   by_cases aA:t<12
   ·let g:Jh:={n:=sn,first:=0,headed:=false,recs:=[],tail:=(Xt i++recB p).take t}
    have B:g.Ok:=⟨λw=>(by cases w),λ_=>⟨rfl,by show((Xt i++recB p).take t).length<12;rw[E9];omega⟩⟩;have:=h.putNew g B I K L (λw=>by cases w) (by simp[g]) (by show((Xt i++recB p).take t).length<=1100;exact S);exact⟨ss++[g],by simpa[g,Jh.bytes]using this,by rw[Yx];simp[g],by rw[Yh];rfl⟩
   ·have k:=Zr i;let g:Jh:={n:=sn,first:=i,headed:=true,recs:=[],tail:=(recB p).take (t-12)}
    have D:g.bytes=(Xt i++recB p).take t:=by show Xt i++(Xx []++(recB p).take (t-12))=_;rw[List.take_append,k,DU (l:=Xt i) (by omega)];simp[Xx]
    have B:g.Ok:=⟨λ_=>⟨H,by show i<_;omega,λr E=>(by cases E),VS p (by omega) (by rw[BO,k]at R;omega)⟩,λw=>(by cases w)⟩;have:=h.putNew g B I K L (λ_=>o.symm) (by simp[g]) (by rw[D];exact S);rw[D]at this;exact⟨ss++[g],by simpa[g]using this,by rw[Yx];simp[g],by rw[Yh];show OC (i+0) 1=_;omega⟩
 | false =>
  rcases O2 ss with rfl|⟨f,d,rfl⟩
  ·exact absurd m (by simp[Jk,Ku,Kv])
  ·rw[O3]at *;have A:=Uc size f d;have q:=m;unfold Jk at q;rw[A]at q;simp only[Bool.or_eq_false_iff,Bool.not_eq_false']at q;obtain⟨k,U,_⟩:=q;have k:d.headed=true:=k;have R:d.tail=[]:=by have U:(d.headed&&d.tail.isEmpty)=true:=U;rw[k]at U;simpa using U
   have N:appB (Ku size (f++[d])) p=recB p:=by unfold appB;rw[m];rfl
   have O:Uj (Ku size (f++[d]))=d.view:=by unfold Uj;rw[m,A];rfl
   have X:=h.ok d (by simp);obtain⟨o1,o2,o3,o4⟩:=X.head k;have P:d.bytes=Xt d.first++Xx d.recs:=by unfold Jh.bytes;rw[k,R];simp
   have aC:=Zl p;have Q:=o;rw[Yh,k]at Q;simp only[if_true]at Q;rw[N,O];show ∃ss',Good (j+1) (l++[⟨d.n,recB p,false⟩]) ss'/\(Ku size (f++[d])).append p=Ku size ss'/\Qw ss'=Qw (f++[d])++[p]/\∀t,0<t->t<(recB p).length->∃g,Good (j+1) (l++[⟨d.n,(recB p).take t,false⟩]) g/\Qw g=Qw (f++[d])/\OC (Zz 0 g) 1=OC (Zz 0 (f++[d])) 1;let s:Jh:={d with recs:=d.recs++[p]}
   have z:s.bytes=d.bytes++recB p:=by
    have:s.bytes=Xt d.first++(Xx (d.recs++[p])++d.tail):=by unfold Jh.bytes;simp only[s,k,if_true]
    rw[this,R,P,Kn];simp[Xx]
   have M:s.Ok:=⟨λ_=>⟨o1,o2,λr E=>by
    rcases CG.1 E with E|E
    ·exact o3 r E
    ·rw[AZ.1 E];omega,o4⟩,λw=>by rw[show s.headed=d.headed from rfl,k]at w;cases w⟩
   have C:=h.putLast (sl':=s) (ex:=[p]) (recB p) M rfl k k rfl z rfl (by simp) (by omega);refine⟨f++[s],C,?_,by rw[Yx,Yx,B7],λt h0 Y=>?_⟩
   ·unfold Gi.append;rw[m,O,N];have Z:{d.view with count:=d.view.count+1,size:=d.view.size+(recB p).length}=s.view:=by show Nc.mk d.n (if d.headed=true then d.first else 0) (d.recs.length+1) (d.bytes.length+(recB p).length) (d.headed&&d.tail.isEmpty) d.headed=Nc.mk d.n (if d.headed=true then d.first else 0) (d.recs++[p]).length s.bytes.length (d.headed&&d.tail.isEmpty) d.headed;rw[z];simp
    rw[Z];show(Gi.mk _ _ _ _)=Gi.mk _ _ _ _;congr 1
    ·simp[Ku,Kv]
    ·show Qw (f++[d])++[p]=Qw (f++[s]);rw[Yx,Yx,B7]
    ·show(Ku size (f++[d])).next+1=OC (Zz 0 (f++[s])) 1;rw[T,Yh];show i+1=OC (if d.headed=true then d.first+(d.recs++[p]).length else Zz 0 f) 1;rw[k];simp only[if_true,BO,List.length_singleton];omega
   ·let g:Jh:={d with tail:=(recB p).take t}
    have D:g.bytes=d.bytes++(recB p).take t:=by
     have:g.bytes=Xt d.first++(Xx d.recs++(recB p).take t):=by unfold Jh.bytes;simp only[g,k,if_true]
     rw[this,P];simp
    have B:g.Ok:=⟨λ_=>⟨o1,o2,o3,VS p (by omega) Y⟩,λw=>by rw[show g.headed=d.headed from rfl,k]at w;cases w⟩;have J:=h.putLast (sl':=g) (ex:=[]) ((recB p).take t) B rfl k k rfl D (by simp[g]) (by decide) (by rw[E9];omega);exact⟨f++[g],J,by rw[Yx,Yx],by rw[Yh,Yh]⟩
def Inv (j:Nat)(R:Nat->List Jh->Prop)(l:List Qf):Prop :=
 (∀k,k<=l.length->∃ss,Good j (l.take k) ss/\R k ss) /\
 ∀(k:Nat) (c:Qf) (t:Nat),l[k]?=AF c->c.drop=false->0<t->t<c.p.length->∃ss,Good j (l.take k++[⟨c.seg,c.p.take t,false⟩]) ss/\R k ss
theorem Inv.nil(R:Nat->List Jh->Prop)(h:R 0 []):Inv 0 R []:=by
 refine⟨λk f=>?_,λk c t d=>by simp at d⟩;obtain rfl:k=0:=by simpa using f
 exact⟨[],Good.nil,h⟩
theorem Inv.mono(h:Inv j R l)(m:j<=k)(d:∀i ss,i<=l.length->R i ss->R' i ss):Inv k R' l:=by
 refine⟨λi hi=>?_,λi c t f n o p=>?_⟩
 ·obtain⟨ss,g,r⟩:=h.1 i hi;exact⟨ss,g.mono m,d _ _ hi r⟩
 ·obtain⟨ss,g,r⟩:=h.2 i c t f n o p;exact⟨ss,g.mono m,d _ _ (FX (BK.1 f).1) r⟩
theorem Inv.push(h:Inv j R l)(c:Qf)(w:∃ss,Good j (l++[c]) ss/\R (l.length+1) ss)(q:c.drop=false->∀t,0<t->t<c.p.length->∃ss,Good j (l++[⟨c.seg,c.p.take t,false⟩]) ss/\R l.length ss):Inv j R (l++[c]):=by
 refine⟨λk g=>?_,λk o t f i m n=>?_⟩
 ·by_cases d:k<=l.length
  ·rw[E2 d];exact h.1 k d
  ·have g:k=l.length+1:=by simp at g;omega
   subst g;rw[DU (by simp)];exact w
 ·rcases Jy f with f|⟨rfl,rfl⟩
  ·rw[E2 (FX (BK.1 f).1)];exact h.2 k o t f i m n
  ·rw[E2 (BE _),BZ];exact q i t m n
theorem Inv.cut(h:Inv j R l)(n:Nat)(o:n<=l.length):Inv j R (l.take n):=by
 refine⟨λk d=>?_,λk c t f g i m=>?_⟩
 ·have d:k<=n:=by rw[E9]at d;omega
  rw[OE,EA d];exact h.1 k (by omega)
 ·have d:k<n:=by have:=(BK.1 f).1;rw[E9]at this;omega
  rw[List.getElem?_take,if_pos d]at f;rw[OE,EA (by omega)];exact h.2 k c t f g i m
theorem Inv.found{x:Qn}(h:Inv j R x.l)(keep torn:Int)(q:x.num keep<=x.l.length) :
  Inv j (λk ss=>R (min k (x.num keep)) ss) (x.found keep torn):=by
 have g:=(h.cut _ q).mono (R':=λk ss=>R (min k (x.num keep)) ss) (BE _) (λi ss hi r=>by rw[E9]at hi;rw[EA (by omega)];exact r);have d:(x.l.take (x.num keep)).length=x.num keep:=by rw[E9,EA q]
 unfold Qn.found Km;cases w:x.l[x.num keep]? with
 | none=>simpa using g
 | some c =>
  dsimp only;by_cases f:c.drop=false/\0<min torn ((c.p.length:Int)-1)
  ·rw[if_pos f];obtain⟨t,A⟩:∃t,(min torn ((c.p.length:Int)-1)).toNat=t:=⟨_,rfl⟩;have m:0<t:=by omega
   have n:t<c.p.length:=by omega
   rw[A];refine g.push _ ?_ (λ_ B z o=>?_)
   ·rw[d,OF (by omega)];exact h.2 _ c t w f.1 m n
   ·dsimp only at o⊢;rw[E9]at o;rw[d,OG,OE,EA (by omega)];exact h.2 _ c B w f.1 z (by omega)
  ·rw[if_neg f];simpa using g
theorem MF{x:Qn}(d:x.safe<=x.l.length)(keep:Int):x.num keep<=x.l.length:=by unfold Qn.num;omega
theorem MD{x:Qn}(d:0<=x.safe)(f:x.safe<=x.l.length)(keep:Int):x.safe.toNat<=x.num keep:=by unfold Qn.num;omega
theorem Z5{x:Qn}(keep torn:Int)(d:x.num keep<=x.l.length):x.num keep<=(x.found keep torn).length:=by unfold Qn.found;rw[BO,E9,EA d];omega
theorem Good.segsOk(h:Good j l ss)(m:j<=1000):Hs ss:=by have f:=h.len;have g:=h.recs;have i:=h.next;have d:=Ud l;have k:=h.sum;rw[h.map]at d;exact⟨h.ok,h.chain,by omega,by omega,by omega⟩
theorem Good.diskL(h:Good j l ss)(m:j<=1000)(f:Jf (segs6 l) d.now)(k:Hg d.now):MV d ss:=by
 have g:=h.sorted;have i:=h.segsOk m;rw[h.map]at f;refine⟨?_,λs o=>?_,h.ok,h.chain,i.few,i.recs,?_⟩
 ·rw[QU g k f];simp[Gt]
 ·rw[<- f s.n];have:(s.n,s.bytes)∈Gt ss:=CP.2 ⟨s,o,rfl⟩;exact TB g.keys this
 ·have:=Jf.sum g.keys k f;have p:=i.sum;omega
end
section
open Go Go.RowKit Go.Dr
theorem XK[bn:Ib](h:Zd base w g p sv lv L)(hd:Qo base w p n s wv d)(hb:base<=w.heap.size)(hT:ban.top<=w.heap.size)(hp:Qv base w pv r)(hr:r.length<=1048576)(aZ:Ur d)(aW:(d.append (Uj L).n (appB L r)).2=5)(aV:L.next+1<=9223372036854775807)(aU:∀s∈L.segs,0<=s.n/\s.n+1<=9223372036854775807/\s.count+1<=9223372036854775807/\s.size<=1099511627776)(V:L.segs.length<=1000000)(N:L.recs.length<=1000000) :
  Calls Tryz.prog 112 #[.pointer (AF ⟨g,0,AI⟩),pv] w λe I=>e=.returned (.tuple #[.int .u64 0,.int .i64 5])/\∃n' s' ad,Zd base I g p sv lv L/\Qo base I p n' s' ad (d.append (Uj L).n (appB L r)).1 /\
   Xy (foot p n s wv) w I/\∀b,foot p n' s' ad b->foot p n s wv b\/w.heap.size<=b:=by
 have aJ:=hp;obtain⟨po,pc,rfl⟩:=hp.form;have X:=Pq aJ hT (by omega);have bA:¬((1048576:Int)<(r.length:Int)):=by omega
 obtain⟨so,sc,rfl,aY,Z⟩:=h.segs.form;unfold maxLen at Z;obtain⟨fb,aE⟩:∃fb,Jk L (Ke L)=fb:=⟨_,rfl⟩;have W:=λ(I:AC) (k:Xy No w I)=>Am (h.no k);have hf:=λ(I:AC) (k:Xy No w I)=>Ec (h.no k) (Ke L);rw[aE]at hf;have HF:=BX (A3 W hf aE);have o:=BX (A7 h hd hb hT aJ aZ aW);have HB:=BX (A5 aV aU V N hr);have c4:=Qq h.blk 4;have c2:=Qq h.blk 2;simp at c2 c4;generalize Y:r.length=rl at *;have aD:=BX Y;clear Y;clear W hf aE hp aJ hr hd hb hT aZ aW aV aU V N aY Z;go_enter Tryz.func112,Tryz.ntmps112;go_upto_block 1 with(first
  | (go_at_call 164;refine(HF.out.2.1 _ ((k1.alloc _).then k3)).mono ?_;rintro e w4 ⟨rfl,rfl⟩;have ay:=((k1.alloc (.cells #[.int .u64 1,.int .u64 L.next,.int .u64 0,.int .i64 0,.bool true,.bool true] 265)).then k3).cell c2 id)
  | (go_at_call 165;refine(HF.out.1 _ (k1.alloc _)).mono ?_;rintro e w3 ⟨rfl,k3⟩)
  | (go_at_call 163;refine X.mono ?_;rintro e w1 ⟨v1,rfl,P,k1⟩;obtain⟨o1,c1,rfl⟩:=P.form;have ae:=k1.cell c4 id))
 have aQ:Xy No w w4:=(k1.alloc (.cells #[.int .u64 1,.int .u64 L.next,.int .u64 0,.int .i64 0,.bool true,.bool true] 265)).then k3;have f:=k3.heap (Qy w1 (.cells #[.int .u64 1,.int .u64 L.next,.int .u64 0,.int .i64 0,.bool true,.bool true] 265)) id;have U:w.heap.size<=w1.heap.size:=k1.size;have aA:=P.keep ((Xy.refl No w1).alloc (.cells #[.int .u64 1,.int .u64 L.next,.int .u64 0,.int .i64 0,.bool true,.bool true] 265) |>.then k3) (λ_ _ e=>e);obtain⟨B,aL⟩:∃B,B=w1.heap.size:=⟨_,rfl⟩;rw[<- aL]at f U⊢;have H4:=BX (A3 aQ U aA);clear X P c4 ae c2 k1 k3 aL aQ aA;go_cut [] (λwx=>Uh wx B (Uj L)/\Xy (·=B) w4 wx);case first =>
  have b0:=Qq f 0;have f0:=Qg f 0;simp at b0;have q:Uj L=if fb then Xh L else(L.segs.getLast?).getD (Xh L):=by unfold Uj;rw[HF.out.2.2]
  cases fb with
  | true =>
   have q:Uj L=Xh L:=q;by_cases A:L.segs=[]
   ·have aI:L.segs.length=0:=by rw[A];rfl
    have Q:Xh L={n:=1,first:=L.next,count:=0,size:=0,whole:=true,headed:=true}:=by unfold Xh;rw[A];rfl
    have z:Uh w4 B (Uj L):=by unfold Uh;rw[q,Q];exact f
    have C:=BX z;clear z A q Q f;generalize L.segs.length=m at *;subst aI;go_wp2;go_meet;exact⟨C.out,Xy.refl _ _⟩
   ·obtain⟨k,j,S,H,W⟩:=Un A;have Q:Xh L={n:=j.n+1,first:=L.next,count:=0,size:=0,whole:=true,headed:=true}:=by unfold Xh;rw[W]
    have hn:=(HB.out.2.1 j (List.mem_of_getElem? H));obtain⟨rg,rfl,s0,_⟩:=(o.out.1.no H4.out.1).segs.cell H;have az:IntKind.u64.wrap (j.n+1)=j.n+1:=wraps_u64 _ (by omega) (by omega);have aP:=Qz (i:=0) (u:=.int .u64 (j.n+1)) f;have z:Uh (w4.setCell ⟨B,0,AI⟩ (.int .u64 (j.n+1))) B (Uj L):=by unfold Uh;rw[q,Q,aP];rfl
    have aS:Xy (·=B) w4 (w4.setCell ⟨B,0,AI⟩ (.int .u64 (j.n+1))):=Xy.setCell (F:=(·=B)) (Xy.refl _ _) (p:=⟨B,0,AI⟩) (.inl rfl) _;have C:=BX (A2 z aS);have aF:=HB.out.qc;clear z aS aP hn A q Q f W H;generalize L.segs.length=m at *;have an:IntKind.i64.wrap ((m:Int)-1)=(k:Int):=by rw[show(m:Int)-1=(k:Int)by omega];exact EM _ (by omega)
    have al:(m:Int)-1=(k:Int):=by omega
    have aI:(0:Int)<(m:Int):=by omega
    have aj:(k:Int)<(m:Int):=by omega
    have ah:(k:Int)<=1099511627776:=by omega
    clear S aF;go_wp2;go_meet;exact C.out
  | false =>
   have A:L.segs≠[]:=λe=>by
    have h1:=HF.out.2.2;unfold Jk at h1;rw[e]at h1;cases h1
   obtain⟨k,j,ai,H,W⟩:=Un A;have Q:Uj L=j:=by rw[q,W];rfl
   obtain⟨rg,rfl,s0,s1,s2,s3,s4,s5⟩:=(o.out.1.no H4.out.1).segs.cell H;have aF:=HB.out.qc;have hx:=Qz (i:=5) (u:=.bool j.headed) (Qz (i:=4) (u:=.bool j.whole) (Qz (i:=3) (u:=.int .i64 j.size) (Qz (i:=2) (u:=.int .u64 j.count) (Qz (i:=1) (u:=.int .u64 j.first) (Qz (i:=0) (u:=.int .u64 j.n) f)))));have S:=λ(x:AC) (hx:Xy (·=B) w4 x) (i:Nat) (u:AM)=>Xy.setCell (F:=(·=B)) hx (p:=⟨B,i,AI⟩) (.inl rfl) u;have aT:=S _ (S _ (S _ (S _ (S _ (S _ (Xy.refl _ _) 0 (.int .u64 j.n)) 1 (.int .u64 j.first)) 2 (.int .u64 j.count)) 3 (.int .i64 j.size)) 4 (.bool j.whole)) 5 (.bool j.headed);have b1:=Qq f 1;have f1:=Qg f 1;have b2:=Qq f 2;have f2:=Qg f 2;have b3:=Qq f 3;have f3:=Qg f 3;have b4:=Qq f 4;have f4:=Qg f 4;have b5:=Qq f 5;have f5:=Qg f 5;simp at b1 b2 b3 b4 b5;have C:=BX (A3 hx aT Q);clear A q W H hx S aT Q f;generalize L.segs.length=m at *;have an:IntKind.i64.wrap ((m:Int)-1)=(k:Int):=by rw[show(m:Int)-1=(k:Int)by omega];exact EM _ (by omega)
   have al:(m:Int)-1=(k:Int):=by omega
   have aI:(0:Int)<(m:Int):=by omega
   have aj:(k:Int)<(m:Int):=by omega
   have ah:(k:Int)<=1099511627776:=by omega
   clear ai aF;go_wp2;go_meet;refine⟨?_,C.out.2.1⟩;unfold Uh;rw[C.out.2.2,C.out.1];rfl
 case rest =>
  obtain⟨D,k5⟩:=hcut;generalize wc=w5 at *;have aG:Xy No w w5:=H4.out.1.absorb k5 (λb e=>by rw[e];exact H4.out.2.1);have aB:=H4.out.2.2.keep k5 (λb q Q=>by
   subst Q;rcases H4.out.2.2.2 with⟨hq,_⟩|⟨g',ap,aq,hq,_,hz,_⟩
   ·rw[hq]at q;simp[DK]at q
   ·rw[hq]at q;simp[DK]at q;subst q;rw[f]at hz;simp at hz)
  have aK:B<w5.heap.size:=Qt D;have H5:=BX (A4 aG aB D aK);have c4:=Qq (o.out.1.no aG).blk 4;simp at c4;have aX:(recB r).length<=1099511627776:=by rw[Zl];have:=HB.out.re;have:=aD.out;omega
  have au:=BX aX;clear aG aB D aK f k5 aX;generalize (recB r).length=xr at *;go_upto_if 59 with fail;go_cut [6] (λv6 wx=>Qv base wx v6 (appB L r)/\Xy No w5 wx);case first =>
   have q:appB L r=if fb then Xt L.next++recB r else recB r:=by unfold appB;rw[HF.out.2.2]
   have ak:=As (w:=w5) (BF o.out.qd H5.out.1.size) L.next;have aO:=H5.out.2.1.bytes (base:=base) (λ_=>o.out.qd);have HE:=BX (A2 q aO);clear q aO;cases fb with
   | true =>
    go_wp2_with(first
     | (at_builtin;refine Zq rfl _ _ rfl w5.heap.size aC (HE.out.2.no k6) rfl rfl (by rw[Zr,Zl];have:=HB.out.re;have:=aD.out;omega) k6.size ?_;intro v7 w7 ac k7)
     | (go_at_call 166;refine ak.mono ?_;rintro e w6 ⟨v6,rfl,aC,k6⟩))
    go_meet;have e:appB L r=Xt L.next++recB r:=HE.out.1;rw[e];exact⟨ac.bytes (base:=base) (λ_=>BF o.out.qd H5.out.1.size),k6.trans k7 (λb hb h=>by have:=(aC.lt b h).1;omega)⟩
   | false =>
    go_wp2;go_meet;have e:appB L r=recB r:=HE.out.1;rw[e];exact⟨HE.out.2,Xy.refl _ _⟩
  case rest =>
   obtain⟨R,k6⟩:=hcut;generalize wc=w6 at *;obtain⟨a6,c6,rfl⟩:=R.form;have aH:(appB L r).length<=1099511627776:=by
    have h1:=HB.out.re;have h2:=aD.out;unfold appB
    split
    ·rw[BO,Zr,Zl];omega
    ·rw[Zl];omega
   have M:=H5.out.1.then k6;have E:Uh w6 B (Uj L):=k6.heap H5.out.qc id;have G:=o.out.2.1.no M;have c0:=Qq (o.out.1.no M).blk 0;simp at c0;have b0:=Qq E 0;simp[Yy]at b0;have J:=λ(I:AC) (k:Xy No w6 I)=>Ey (G.no k) (BF o.out.qc (M.then k).size) o.out.qf (Uj L).n (R.no k) aH;rw[o.out.rg]at J;have H6:=BX (A3 M E R);have ar:=BX aH;clear M E R G aH k6 c4;generalize ab:(appB L r).length=xb at *;have av:=BX ab;clear ab;go_upto_region 15 with fail;have ag:¬foot p n s wv g:=o.out.1.apart o.out.2.1 (.inl rfl);have af:¬foot p n s wv B:=λe=>by have:=o.out.2.1.foot_lt B e;have:=H4.out.2.1;omega
   refine Ql (λI=>Xy (foot p n s wv) w6 I) [0,1,2,3,4,5,6] [7] [8] (by kernel_rfl) (by kernel_rfl) (λ_ _ _ _ _ h=>h) (Xy.refl _ _).drew ?_;have kd:Xy No w6 w6.drew:=(Xy.refl _ _).drew;iterate 7(refine Qk (v:=?_) rfl rfl rfl ?_ ?_;rotate_left;focus(
    intro I hq;have ax:=hq.cell c0 ag;have aw:=hq.cell b0 af;go_simp
    try with_reducible rfl))
   refine Qj ?_;refine Qx rfl rfl (λK hK=>?_);go_simp;refine(J _ kd).mono ?_;rintro e w8⟨rfl,n8,s8,ao,aM,k8,f8⟩;have O:Xy (foot p n s wv) w6 w8:=kd.no.trans k8 (λ_ _ e=>e);refine hK _ _ O ?_;clear hK K;refine Qh (Qu rfl (Qm ?_));have G:=o.out.2.1.no H6.out.1;have aN:=(o.out.1.no H6.out.1).byD G O;have am:=(o.out.2.2.2.2.1.no H6.out.1).keep G.foot_ok O;have aR:Xy (foot p n s wv) w w8:=H6.out.1.no.trans O (λ_ _ e=>e);have T:=(H6.out.1.then kd).size;have H8:=BX (A5 aN aR T aM f8);clear aN am aR T aM f8 G O k8 kd c0 b0 J;go_wp2;go_ret2;exact⟨rfl,n8,s8,ao,H8.out.1,H8.out.qd,H8.out.2.1,λb hb=>(H8.out.re b hb).imp id (λh=>BF H8.out.qc h)⟩
end
section
open Go Go.RowKit
theorem N4(m:Kk){i:Nat}(h:m[i]?=AF e):e.2.length<=msum m:=by
 induction m generalizing i with
 | nil=>simp at h
 | cons x m d =>
  cases i with
  | zero=>simp at h;subst h;show x.2.length<=x.2.length+msum m;omega
  | succ i=>rw[List.getElem?_cons_succ]at h;have:=d h;show e.2.length<=x.2.length+msum m;omega
theorem Q6(size:Int)(g:Good j l ss)(o:j<=1000):∀t∈(Ku size ss).segs,0<=t.n/\t.n+1<=9223372036854775807/\t.count+1<=9223372036854775807/\t.size<=1099511627776:=by
 intro t p;have A:=g.next;have B:=g.recs;have h:=g.segsOk o;obtain⟨d,f,rfl⟩:=CP.1 (show t∈ss.map Jh.view from p);have q:=g.pos d f;have w:d.recs.length<=(Qw ss).length:=by unfold Qw;have:d.recs∈ss.map (·.recs):=CP.2 ⟨d,f,rfl⟩;obtain⟨a,b,e⟩:=List.append_of_mem this;rw[e];simp;omega
 have k:(d.n,d.bytes)∈Gt ss:=CP.2 ⟨d,f,rfl⟩;obtain⟨i,hi,e⟩:=List.getElem_of_mem k;have m:=N4 (Gt ss) (i:=i) (e:=(d.n,d.bytes)) (by rw[List.getElem?_eq_getElem hi,e]);have z:=h.sum;exact⟨by show 0<=d.n;omega,by show d.n+1<=_;omega,by show d.recs.length+1<=_;omega,by show d.bytes.length<=_;dsimp only at m;omega⟩
theorem JU[bn:Ib](H:Zd base w g p C lv (Ku size ss))(F:Qo base w p n s wv d)(h:base<=w.heap.size)(E:ban.top<=w.heap.size)(I:Qv base w pv q)(J:q.length<=1048576)(i:Good j l ss)(G:j<=1000)(m:Ur d)(c:Int)(P:c=0\/c=5)(k:(d.append (Uj (Ku size ss)).n (appB (Ku size ss) q)).2=c) :
  Calls Tryz.prog 112 #[.pointer (AF ⟨g,0,AI⟩),pv] w λe D=>e=.returned (.tuple #[.int .u64 (if c=0 then((OC (Zz 0 ss) 1:Nat):Int)else 0),.int .i64 c])/\∃A B f z o,Zd base D g p z o (if c=0 then(Ku size ss).append q else Ku size ss)/\Qo base D p A B f (d.append (Uj (Ku size ss)).n (appB (Ku size ss) q)).1 /\
   Xy (Kx g p n s wv C lv) w D/\∀b,Kx g p A B f z o b->Kx g p n s wv C lv b\/w.heap.size<=b:=by
 have R:=i.next;have S:=i.recs;have Q:=i.len;rcases P with rfl|rfl
 ·rw[if_pos rfl,if_pos rfl];exact KM H F h E I J m k (by show OC (Zz 0 ss) 1+1<=_;omega) (Q6 size i G) (by show(ss.map Jh.view).length<=_;rw[D6];omega) (by show(Qw ss).length<=_;omega)
 ·rw[if_neg (by decide),if_neg (by decide)];refine(XK H F h E I J m k (by show OC (Zz 0 ss) 1+1<=_;omega) (Q6 size i G) (by show(ss.map Jh.view).length<=_;rw[D6];omega) (by show(Qw ss).length<=_;omega)).mono (λe D ⟨K,A,B,f,L,M,N,O⟩=>⟨K,A,B,f,C,lv,L,M,N.mono (λ_ _ e=>.inl e),λb h=>?_⟩);rcases h with h|h
  ·exact(O b h).imp .inl id
  ·exact .inl (.inr h)
def RH (d cnt:Nat)(all:List Qs)(k:Nat)(ss:List Jh):Prop:=d<=k->∃m,cnt<=m/\m<=all.length/\Qw ss=all.take m/\OC (Zz 0 ss) 1=m+1
theorem Inv.reset(h:Inv j R l)(p:Good j l ss)(w:R' l.length ss)(d:∀k ss,k<l.length->R' k ss):Inv j R' l:=by
 refine⟨λk q=>?_,λk c t i m n o=>?_⟩
 ·by_cases e:k=l.length
  ·subst e;exact⟨ss,by rw[BZ];exact p,w⟩
  ·obtain⟨g,f,_⟩:=h.1 k q;exact⟨g,f,d _ _ (by omega)⟩
 ·obtain⟨g,f,_⟩:=h.2 k c t i m n o;exact⟨g,f,d _ _ (BK.1 i).1⟩
structure Sx (j cnt:Nat)(all:List Qs)(ss:List Jh)(d:Qr)(x:Qn):Prop where
 rel:Mf d x
 good:Good j x.l ss
 inv:Inv j (RH x.safe.toNat cnt all) x.l
 recs:Qw ss=all
 next:OC (Zz 0 ss) 1=all.length+1
 cnt:cnt<=all.length
 room0:0<=d.room
 room1:d.room<=1000000
theorem Sx.mono{j k cnt:Nat}(h:Sx j cnt all ss d x)(f:j<=k):Sx k cnt all ss d x :=
 ⟨h.rel,h.good.mono f,h.inv.mono f (λ_ _ _ r=>r),h.recs,h.next,h.cnt,h.room0,h.room1⟩
theorem Sx.small{j cnt:Nat}(h:Sx j cnt all ss d x)(m:j<=1000):Ur d:=by have f:=h.rel.sum;have g:=Ud x.l;have i:=h.good.sum;have k:=h.good.len;refine⟨h.room0,by have:=h.room1;omega,by omega,?_⟩;rw[h.rel.wait,List.length_drop];omega
theorem Sx.code{j cnt:Nat}(f:Sx j cnt all ss d x)(sn:Int)(B:Qs):(d.append sn B).2=0\/(d.append sn B).2=5:=by
 unfold Qr.append
 split
 ·exact .inr rfl
 ·split
  ·exact .inr rfl
  ·exact .inl rfl
theorem Ex{d:Qr}(h:(d.append sn B).2=5):(d.append sn B).1=d:=by
 unfold Qr.append at h⊢
 split
 ·rfl
 ·rename_i f;rw[if_neg f]at h
  split
  ·rfl
  ·rename_i g;rw[if_neg g]at h;simp at h
theorem Ej{d:Qr}(h:(d.append sn B).2=0):(d.append sn B).1=d.put ⟨sn,B,false⟩:=by
 unfold Qr.append at h⊢
 split
 ·rename_i f;rw[if_pos f]at h;simp at h
 ·rename_i f;rw[if_neg f]at h
  split
  ·rename_i g;rw[if_pos g]at h;simp at h
  ·rfl
theorem YV{x:Qn}(h:(x.append sn B).2=0):(x.append sn B).1=x.push ⟨sn,B,false⟩:=by
 unfold Qn.append at h⊢
 split
 ·rename_i d;rw[if_pos d]at h;simp at h
 ·rename_i d;rw[if_neg d]at h
  split
  ·rename_i f;rw[if_pos f]at h;simp at h
  ·rfl
theorem Po{x:Qn}(h:(x.append sn B).2=5):(x.append sn B).1=x:=by
 unfold Qn.append at h⊢
 split
 ·rfl
 ·rename_i d;rw[if_neg d]at h
  split
  ·rfl
  ·rename_i f;rw[if_neg f]at h;simp at h
theorem Sx.append{j cnt:Nat}(h:Sx j cnt all ss d x)(T:j<=1000)(size:Int)(p:Qs)(J:p.length<=1000)(w:(d.append (Uj (Ku size ss)).n (appB (Ku size ss) p)).2=0) :
  ∃ss',(Ku size ss).append p=Ku size ss'/\Sx (j+1) cnt (all++[p]) ss' (d.append (Uj (Ku size ss)).n (appB (Ku size ss) p)).1 (x.append (Uj (Ku size ss)).n (appB (Ku size ss) p)).1:=by
 obtain⟨ss',q,f,g,o⟩:=h.good.append size p J (by omega);obtain⟨z,A⟩:=h.rel.append (Uj (Ku size ss)).n (appB (Ku size ss) p);generalize (Uj (Ku size ss)).n=sn at *;generalize appB (Ku size ss) p=B at *;have D:=Ej w;have L:=YV (x:=x) (sn:=sn) (B:=B) (by rw[<- A];exact w);rw[L]at z⊢;have E:(Ku size ss').next=(Ku size ss).next+1:=by rw[<- f];rfl
 have C:OC (Zz 0 ss') 1=OC (Zz 0 ss) 1+1:=E;refine⟨ss',f,⟨z,q,?_,by rw[g,h.recs],by rw[C,h.next];simp,by have:=h.cnt;simp;omega,by rw[D];exact h.room0,by rw[D];exact h.room1⟩⟩;have I:=h.inv.mono (k:=j+1) (R':=RH x.safe.toNat cnt (all++[p])) (Nat.le_succ _) (λi s _ r K=>by
  obtain⟨m,M,N,O,P⟩:=r K
  exact⟨m,M,by simp;omega,by rw[E2 N];exact O,P⟩)
 refine I.push ⟨sn,B,false⟩ ⟨ss',q,λ_=>⟨all.length+1,by have:=h.cnt;omega,by simp,by rw[g,h.recs,DU (by simp)],by rw[C,h.next]⟩⟩ (λ_ t G H=>?_);obtain⟨S,F,R,Q⟩:=o t G H;exact⟨S,F,λ_=>⟨all.length,h.cnt,by simp,by rw[R,h.recs,E2 (BE _),BZ],by rw[Q,h.next]⟩⟩
theorem Sx.sync{j cnt:Nat}(h:Sx j cnt all ss d x):Sx j all.length all ss d.sync x.sync:=by
 refine⟨h.rel.sync,h.good,?_,h.recs,h.next,BE _,h.room0,h.room1⟩;have e:x.sync.safe.toNat=x.l.length:=by simp[Qn.sync]
 show Inv j (RH x.sync.safe.toNat all.length all) x.l;rw[e];exact h.inv.reset h.good (λ_=>⟨all.length,BE _,BE _,by rw[BZ];exact h.recs,h.next⟩) (λk s f g=>by omega)
theorem Sx.setFull{j cnt:Nat}(h:Sx j cnt all ss d x)(on:Bool):Sx j cnt all ss {d with full:=on} {x with full:=on} :=
 ⟨h.rel.setFull on,h.good,h.inv,h.recs,h.next,h.cnt,h.room0,h.room1⟩
theorem Sx.crash{j cnt:Nat}(h:Sx j cnt all ss d x)(keep torn:Int) :
  ∃ss' m,cnt<=m/\m<=all.length/\Sx j m (all.take m) ss' (d.crash keep torn) (x.crash keep torn):=by
 have q:=MF h.rel.s1 keep;have o:=MD h.rel.s0 h.rel.s1 keep;have p:=h.inv.found keep torn q;have n:=Z5 keep torn q;obtain⟨ss',i,B⟩:=p.1 (x.found keep torn).length (BE _);rw[BZ]at i;rw[OF n]at B;obtain⟨m,D,w,z,A⟩:=B o;have C:(x.crash keep torn).l=x.found keep torn:=rfl;have g:(x.crash keep torn).safe.toNat=(x.found keep torn).length:=by simp[Qn.crash]
 have f:(all.take m).length=m:=by rw[E9,EA w]
 refine⟨ss',m,D,w,⟨h.rel.crash keep torn,i,?_,z,by rw[f];exact A,by rw[f];exact BE _,h.room0,h.room1⟩⟩;rw[g,C];exact p.reset i (λ_=>⟨m,BE _,by rw[f];exact BE _,by rw[z,OE,OG],A⟩) (λk s E F=>by omega)
end
end Go.Proofs.YtfdmbomlkpkegaaGreat
