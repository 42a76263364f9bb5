/- Lemmas. -/
import Derived.Test.YtfdmbomlkpkegaaGreatS2
set_option maxRecDepth 100000
set_option maxHeartbeats 8000000
set_option linter.all false
set_option autoImplicit true
set_option relaxedAutoImplicit true
open Array renaming getElem?_eq_getElem->B9,getElem?_eq_some_iff->AO,getElem?_toList->B6,length_toList->E0,replicate->B3
open Bool renaming and_eq_true->AG,not_eq_true'->AR,or_eq_true->AH
open Go renaming Act->AB,Oper->A1,Program->A0,TypeId->DW,Value->AM,World->AC,maxLen->BH,wpOp_mono->AL
open Go.Act renaming put->AQ
open Go.Addr renaming add_lit->DZ
open Go.Builtin renaming append_->DX
open Go.Code renaming region->BA
open Go.Oper renaming wp_mono->B1
open Go.Region renaming Mode->AD,noSelect->AP,ready->AJ
open Go.Value renaming ownBlock->DK
open Go.Value.slice renaming injEq->DB
open List renaming all_cons->B8,all_eq_true->AS,append_assoc->B7,isEmpty_iff->AY,length_append->BO,length_cons->AT,size_toArray->E1,take_append_of_le_length->E2,take_of_length_le->DU
open Nat renaming add_assoc->AU,le_refl->BE,mul_one->DY
open Option renaming none->AI,some->AF
namespace Go.Proofs.YtfdmbomlkpkegaaGreat
open Go Go.RowKit Go.Dr
def Vz (w:AC)(base:Nat)(e:DW)(v:AM)(n:Nat)(xs:List AM):Prop :=
 xs.length=n/\((v=.slice AI 0 0/\n=0) \/
  ∃g off cap d,v=.slice (AF ⟨g,off,AI⟩) n cap/\base<=g/\w.heap[g]?=AF (.cells d e (0,0))/\n<=cap/\cap<=BH/\off+cap<=d.size/\(d.toList.drop off).take n=xs)
theorem NS(w:AC)(base:Nat)(e:DW):Vz w base e (.slice AI 0 0) 0 []:=⟨rfl,.inl ⟨rfl,rfl⟩⟩
theorem VK(h:w.ownsRow base e 1 v n xs):Vz w base e v n xs:=by
 refine⟨by have:=h.1;omega,?_⟩;rcases h.2 with f|⟨g,cap,d,rfl,i,j,k,m,p,o⟩
 ·exact .inl f
 ·exact .inr ⟨g,0,cap,d,rfl,i,j,k,m,by omega,by simpa using o⟩
theorem SC(h:Vz w base e v n xs):∃ao cap,v=.slice ao n cap/\n<=cap/\cap<=BH:=by
 rcases h.2 with⟨rfl,f⟩|⟨g,off,cap,d,rfl,_,_,i,j,_⟩
 ·exact⟨AI,0,by rw[f],by omega,by decide⟩
 ·exact⟨_,_,rfl,i,j⟩
theorem Vf(h:Vz w base e v n xs):∀b,v.ownBlock=AF b->base<=b/\∃d,w.heap[b]?=AF (.cells d e (0,0)):=by
 intro b f;rcases h.2 with⟨rfl,k⟩|⟨g,off,cap,d,rfl,i,j,_⟩
 ·simp[DK]at f
 ·simp[DK]at f;subst f;exact⟨i,d,j⟩
theorem SD(h:Vz w base e v n xs)(k:Xy F w f)(o:∀b,v.ownBlock=AF b->¬F b):Vz f base e v n xs:=by
 refine⟨h.1,?_⟩;rcases h.2 with i|⟨g,off,cap,d,rfl,j,m,r⟩
 ·exact .inl i
 ·exact .inr ⟨g,off,cap,d,rfl,j,k.heap m (o g rfl),r⟩
theorem ZR(h:Vz w base e (.slice ao n cap) n xs)(d:xs[j]?=AF x) :
  ∃g off,ao=AF ⟨g,off,AI⟩/\w.cell? ⟨g,off+j,AI⟩=AF x:=by
 have p:=(List.getElem?_eq_some_iff.1 d).1;rcases h.2 with⟨f,q⟩|⟨g,off,i,k,f,z,m,A,B,C,o⟩
 ·have:=h.1;omega
 ·simp only[DB]at f;obtain⟨rfl,_,rfl⟩:=f;refine⟨g,off,rfl,?_⟩;rw[Qq m];rw[<- o,List.getElem?_take]at d
  split at d
  ·rw[List.getElem?_drop]at d;simpa using d
  ·cases d
theorem Fk(w:AC)(t F e:DW)(i:TypeInfo)(E:P.underlying t=AF (.slice e))(hi:P.info? e=AF i)(n:i.size=1)(g off f k:Nat)(h:Array AM)(D:w.heap[g]?=AF (.cells h e (0,0)))(a:Addr)(m c:Nat)(d:List AM)(B:d.length=m*i.size)(o:∀j u,d[j]?=AF u->w.cell? (a.add j)=AF u)(C:∀u∈d,u.oneCell'=true)(p:f+m<=k)(z:off+f*i.size+d.length<=h.size) :
  (DX #[t,t] F #[.slice (AF ⟨g,off,AI⟩) f k,.slice (AF a) m c]).run P w =
   .ok (.slice (AF ⟨g,off,AI⟩) (f+m) k) (w.setRow g (h.toList.take (off+f)++d++h.toList.drop (off+f+m)).toArray):=by
 have A:=run_firstCells_some (P:=P) w i.size m a m c d B o;have q:=run_storeCells_at P g (off+f*i.size) e d 0 h w D (by simpa using z) C;simp only[Nat.add_zero]at q;rw[B,n,DY,DY]at q;rw[n]at A;simp[DX,run_underlying E,sizeOf,typeInfo,hi,Builtin.lenOf,p,A,DZ,q,n]
theorem Br(w:AC)(base:Nat)(t Y e:DW)(i:TypeInfo)(z:AM)(bytes:Nat)(ht:P.underlying t=AF (.slice e))(hi:P.info? e=AF i)(hz:i.zero=AF z)(h:i.size=1)(O:i.bytes=bytes)(X:z.cells.size=1)(v:AM)(n:Nat)(xs:List AM)(d:Vz w base e v n xs)(a:Addr)(m c:Nat)(f:List AM)(B:f.length=m)(q:∀j u,f[j]?=AF u->w.cell? (a.add j)=AF u)(h1:∀u∈f,u.oneCell'=true)(I:n+m<=BH)(C:(n+m)*bytes<=140737488355328)(D:base<=w.heap.size)(G:∃g off cap,v=.slice (AF ⟨g,off,AI⟩) n cap) :
  ∃M Z,(DX #[t,t] Y #[v,.slice (AF a) m c]).run P w=.ok M Z/\Vz Z base e M (n+m) (xs++f)/\w.grownBy Z v.ownBlock/\(M.ownBlock=v.ownBlock\/M.ownBlock=AF w.heap.size):=by
 subst O;have L:n+m<=9223372036854775807:=by simp only[BH]at I;omega
 obtain⟨g,off,cap,rfl⟩:=G;rcases d.2 with⟨F,_⟩|⟨g',K,aA,o,F,N,hg,aC,R,aB,H⟩
 ·cases F
 ·simp only[DB,Option.some.injEq,Addr.mk.injEq,and_true,true_and]at F;obtain⟨⟨rfl,rfl⟩,rfl⟩:=F;by_cases A:n+m<=cap
  ·have W:=Fk (P:=P) w t Y e i ht hi h g off n cap o hg a m c f (by rw[B,h,DY]) q h1 A (by rw[h,B];omega);have p:(o.toList.take (off+n)).length=off+n:=by rw[List.length_take,E0];omega
   refine⟨_,_,W,⟨by rw[BO,d.1,B],.inr ⟨g,off,cap,_,rfl,N,setRow_heap w g o _ e _ hg,A,R,?_,?_⟩⟩,⟨rfl,rfl,rfl,by simp,λk _ V=>setRow_other w g k _ (λe=>V (by simp[DK,e]))⟩,.inl rfl⟩
   ·simp only[E1,BO,p,List.length_drop,E0];omega
   ·have e1:(o.toList.take (off+n)).drop off=xs:=by rw[<- H,List.drop_take,Nat.add_sub_cancel_left]
    show((o.toList.take (off+n)++f++o.toList.drop (off+n+m)).drop off).take (n+m)=xs++f;rw[B7,List.drop_append_of_le_length (by rw[p];omega),e1,<- B7,E2 (by rw[BO,d.1,B];exact BE _),DU (by rw[BO,d.1,B];exact BE _)]
  ·have E:∀j u,xs[j]?=AF u->w.cell? ((⟨g,off,AI⟩:Addr).add j)=AF u:=λj u hu=>by
    obtain⟨g',K,F,hc⟩:=ZR d hu;simp at F;obtain⟨rfl,rfl⟩:=F;rw[DZ];exact hc
   have W:=run_append_grow (P:=P) w t Y e i z ht hi hz ⟨g,off,AI⟩ n cap xs (by rw[d.1,h,DY]) E a m c f (by rw[B,h,DY]) q (by omega) (by omega) (growslice_fits (by omega) C);have U:=grownCap_ge w (n+m) cap e;have J:grownCap w (n+m) cap e<=BH:=grownCap_le_maxLen w (n+m) cap e I;refine⟨_,_,W,⟨by rw[BO,d.1,B],.inr ⟨w.heap.size,0,_,_,rfl,D,Go.heap_alloc_new w.drew _,U,J,?_,?_⟩⟩,⟨rfl,rfl,rfl,by simp,λk V _=>Go.heap_alloc_old w.drew _ V⟩,.inr rfl⟩
   ·simp only[Array.size_append,E1,size_zeroCells,X,d.1,B];omega
   ·simp only[Array.toList_append,B7,List.drop_zero];rw[<- B7,E2 (by rw[BO,d.1,B];exact BE _),DU (by rw[BO,d.1,B];exact BE _)]
end Go.Proofs.YtfdmbomlkpkegaaGreat
namespace Go.Dr
open Go
section
variable {P:A0}{ops:Array A1}{Q:Exit->AB->AC->Prop}{md:AD}{S:AC->Prop}{T:Nat->Bool}
def Gf (md:AD)(ops:Array A1)(j:Nat):List Nat->Array Bool->Bool
 | [],d=>AJ md ops d==[j]
 | i::r,d=>(AJ md ops d).all (λx=>x==i || x==j) && !(AJ md ops d).isEmpty&&Jv md ops (i::r) (d.setIfInBounds j true)&&Gf md ops j r (d.setIfInBounds i true)
theorem Cp:∀(m:List Nat) (d:Array Bool) (j:Nat),Zm m (d.setIfInBounds j true)=(Zm m d).setIfInBounds j true
 | [],_,_=>rfl
 | i::r,d,j=>by
  show Zm r ((d.setIfInBounds j true).setIfInBounds i true)=(Zm r (d.setIfInBounds i true)).setIfInBounds j true
  rw[<- Cp r (d.setIfInBounds i true) j]
  by_cases h:i=j
  ·subst h;rfl
  ·rw[Array.setIfInBounds_comm _ _ h]
theorem G8(j:Nat) :
  ∀(m:List Nat) (O:List A1),Zo ops m O->(z:∃o,ops[j]?=AF o)->∀(f:Nat) (d:Array Bool) (a:AB) (w:AC),Ya md ops d->S w->Gf md ops j m d=true->Rn P ops Q S K j m a w ->
   (∀a w,S w->Ya md ops ((Zm m d).setIfInBounds j true)->K a w->Vk P md ops Q S T f ((Zm m d).setIfInBounds j true) a w) ->
   Vk P md ops Q S T (f+(m.length+1)) d a w:=by
 intro m O hp z;obtain⟨N,z⟩:=z;have step:∀(i:Nat) (V:A1),ops[i]?=AF V->∀(F:AB->AC->Prop) (a:AB) (w:AC),Ru P ops Q S F [i] a w ->
   wpOp P ops Q i (λn k=>S k/\F n k) a w:=by
  intro i V hi F a w h;obtain⟨o,ho,h⟩:=h;have D:ops[i]?=AF o:=by rw[<- B6];exact ho
  rw[hi]at D;cases D;unfold wpOp;simp only[hi]
  split
  ·rename_i L;rw[if_pos L]at h;exact .inl (B1 (λn k g=>⟨g.1,g.2⟩) h)
  ·rename_i L;rw[if_neg L]at h;exact⟨h.1,h.2⟩
 induction hp using Zo.rec' with
 | h0 =>
  intro f d a w p R B h E;have hf:Jv md ops [j] d=true:=by simp only[Gf,beq_iff_eq]at B;simp[Jv,B]
  exact Gg (T:=T) (S:=S) (Q:=Q) (P:=P) (md:=md) [j] [N] (Zo.cons z Zo.nil) f d a w _ p R hf (Yp [j] [N] (Zo.cons z Zo.nil) a w h) E
 | h1 i o r l hi U ih =>
  intro f d a w p R B h E;simp only[Gf,AG,AR,AS,AH,beq_iff_eq]at B;obtain⟨⟨⟨A,C⟩,I⟩,H⟩:=B;obtain⟨X,Y⟩:=h;rw[AT,<- AU];refine⟨λh0=>(by rw[h0]at C;simp at C),λx M=>?_⟩;rcases A x M with rfl|rfl
  ·exact AL (λn k g=>⟨λ_=>g.1,ih f _ n k (p.set M) g.1 H g.2 E⟩) (step x o hi _ a w Y)
  ·refine AL (λn k g=>⟨λ_=>g.1,?_⟩) (step x N z _ a w (show Ru P ops Q S (λn k=>Ru P ops Q S K (i::r) n k) [x] a w from X));have Z:=Cp (i::r) d x;refine Gg (T:=T) (S:=S) (Q:=Q) (P:=P) (md:=md) (i::r) (o::l) (Zo.cons hi U) f _ n k K (p.set M) g.1 I (Yp (i::r) (o::l) (Zo.cons hi U) n k g.2) ?_;intro W w2 G q J;rw[Z]at q⊢;exact E W w2 G q J
def Hn:List (Option Nat×List Nat×List Nat)->Nat
 | []=>0
 | (none,E,m)::r=>Hn r+m.length+E.length
 | (some _,E,m)::r=>Hn r+(m.length+1)+E.length
def Jb (ops:Array A1):List (Option Nat×List Nat×List Nat)->Array Bool->Bool
 | [],d=>(AJ .any ops d).isEmpty
 | (none,E,m)::r,d=>Ym .any ops (λ_=>false) E d&&Jv .any ops m (Zm E d)&&(m.all λi=>decide (i<ops.size))&&Jb ops r (Zm m (Zm E d))
 | (some j,E,m)::r,d=>Ym .any ops (λ_=>false) E d&&Gf .any ops j m (Zm E d)&&((j::m).all λi=>decide (i<ops.size))&&Jb ops r ((Zm m (Zm E d)).setIfInBounds j true)
def Vg (P:A0)(ops:Array A1)(Q:Exit->AB->AC->Prop)(S:AC->Prop):List (Option Nat×List Nat×List Nat)->AB->AC->Prop
 | [],a,w=>wpList P ops Q [] a w
 | (none,E,m)::r,a,w=>Yc P ops S (λ_ d=>Ru P ops Q S (λf g=>Vg P ops Q S r f g) m d w) E [] a
 | (some j,E,m)::r,a,w=>Yc P ops S (λ_ d=>Rn P ops Q S (λf g=>Vg P ops Q S r f g) j m d w) E [] a
theorem QG{j:Nat}{E m:List Nat}{r:List (Option Nat×List Nat×List Nat)}{a:AB}{w:AC}(h:Yc P ops S (λ_ d=>Rn P ops Q S (λf g=>Vg P ops Q S r f g) j m d w) E [] a):Vg P ops Q S ((AF j,E,m)::r) a w:=h
theorem Jz{E m:List Nat}{r:List (Option Nat×List Nat×List Nat)}{a:AB}{w:AC}(h:Yc P ops S (λ_ d=>Ru P ops Q S (λf g=>Vg P ops Q S r f g) m d w) E [] a):Vg P ops Q S ((AI,E,m)::r) a w:=h
theorem Mv(h:wpList P ops Q [] a w):Vg P ops Q S [] a w:=h
theorem X8(R:AP ops=true)(O:∀c a d v w,Q (.panic c) (AQ a (AF d) v) w->Q (.panic c) a w) :
  ∀(A:List (Option Nat×List Nat×List Nat)) (f:Array Bool) (a:AB) (w:AC),Ya .any ops f->S w->Jb ops A f=true->Vg P ops Q S A a w->Vk P .any ops Q S (λ_=>false) (Hn A) f a w:=by
 intro A
 induction A with
 | nil =>
  intro f a w _ _ p h;simp only[Jb,AY]at p;exact⟨p,h⟩
 | cons e r U =>
  obtain⟨o,E,m⟩:=e;intro f a w i F p h;cases o with
  | none =>
   simp only[Jb,AG]at p;obtain⟨⟨⟨z,I⟩,q⟩,J⟩:=p;simp only[Vg]at h;obtain⟨G,K,M⟩:=Xb E [] a h;obtain⟨B,D⟩:=Jp ops m q;refine Yw R O F E G K (Hn r+m.length) _ a i z M ?_;intro C n;refine Gg m B D (Hn r) _ C _ _ (Yn E f i z) F I (Yp m B D C _ n) ?_;intro H N k g L;exact U _ H N g k J L
  | some j =>
   simp only[Jb,AG,B8,decide_eq_true_eq]at p;obtain⟨⟨⟨z,I⟩,V,q⟩,J⟩:=p;simp only[Vg]at h;obtain⟨G,K,M⟩:=Xb E [] a h;obtain⟨B,D⟩:=Jp ops m q;refine Yw R O F E G K (Hn r+(m.length+1)) _ a i z M ?_;intro C n;refine G8 j m B D ⟨_,B9 V⟩ (Hn r) _ C _ (Yn E f i z) F I n ?_;intro H N k g L;exact U _ H N g k J L
theorem ZM{id:Nat}(S:AC->Prop)(f:List (Option Nat×List Nat×List Nat))(D:P.follows .mixedOrders=true)(n:(AP ops&&Jb ops f (B3 ops.size false)&&(Hn f==ops.size))=true)(z:∀c a d v w,Q (.panic c) (AQ a (AF d) v) w->Q (.panic c) a w)(A:S w.drew)(h:Vg P ops Q S f a w.drew):(BA id ops true).wp P Q a w:=by
 simp only[AG,beq_iff_eq]at n;obtain⟨⟨p,m⟩,q⟩:=n;refine wp_region_any D (Vt (S:=S) (T:=λ_=>false) _ _ _ _ ?_);generalize C:B3 ops.size false=l at m⊢;have g:Ya .any ops l:=by intro j o B i;have k:j<ops.size:=(AO.1 B).1;subst C;simp[k]at i
 rw[<- q];exact X8 p z f l a w.drew g A m h
end
end Go.Dr
namespace Go.Dr
open Go
section
variable {P:A0}{ops:Array A1}{Q:Exit->AB->AC->Prop}{S:AC->Prop}
def Gd (ops:Array A1)(f:List Nat)(j:Nat):List Nat->Array Bool->Bool
 | [],d=>Ym .any ops (λ_=>false) f d&&(AJ .any ops (Zm f d)==[j])
 | i::r,d=>(AJ .any ops d).all (λx=>x==i || x==j) && !(AJ .any ops d).isEmpty&&Jv .any ops (i::r) (d.setIfInBounds j true) &&
   Ym .any ops (λ_=>false) f (Zm (i::r) (d.setIfInBounds j true))&&Gd ops f j r (d.setIfInBounds i true)
def Rs (P:A0)(ops:Array A1)(Q:Exit->AB->AC->Prop)(S:AC->Prop)(K:AB->AC->Prop)(j:Nat)(f:List Nat):List Nat->AB->AC->Prop
 | [],a,w=>Yc P ops S (λ_ d=>Ru P ops Q S K [j] d w) f [] a
 | i::r,a,w=>Ru P ops Q S (λg k=>Yc P ops S (λ_ d=>K d k) f [] g) (j::i::r) a w/\Ru P ops Q S (λd h=>Rs P ops Q S K j f r d h) [i] a w
theorem V8{K:AB->AC->Prop}(hs:AP ops=true)(hQ:∀c a d v w,Q (.panic c) (AQ a (AF d) v) w->Q (.panic c) a w)(j:Nat)(k:List Nat) :
  ∀(m:List Nat) (Ms:List A1),Zo ops m Ms->(C:∃o,ops[j]?=AF o)->∀(g:Nat) (f:Array Bool) (a:AB) (w:AC),Ya .any ops f->S w->Gd ops k j m f=true->Rs P ops Q S K j k m a w ->
   (∀a w,S w->Ya .any ops ((Zm k (Zm m f)).setIfInBounds j true)->K a w->Vk P .any ops Q S (λ_=>false) g ((Zm k (Zm m f)).setIfInBounds j true) a w) ->
   Vk P .any ops Q S (λ_=>false) (g+k.length+(m.length+1)) f a w:=by
 intro m Ms hp C;obtain⟨oj,C⟩:=C;have step:∀(i:Nat) (oi:A1),ops[i]?=AF oi->∀(N:AB->AC->Prop) (a:AB) (w:AC),Ru P ops Q S N [i] a w ->
   wpOp P ops Q i (λn z=>S z/\N n z) a w:=by
  intro i oi hi N a w h;obtain⟨o,ho,h⟩:=h;have H:ops[i]?=AF o:=by rw[<- B6];exact ho
  rw[hi]at H;cases H;unfold wpOp;simp only[hi]
  split
  ·rename_i hw;rw[if_pos hw]at h;exact .inl (B1 (λn z q=>⟨q.1,q.2⟩) h)
  ·rename_i hw;rw[if_neg hw]at h;exact⟨h.1,h.2⟩
 induction hp using Zo.rec' with
 | h0 =>
  intro g f a w p R F h L;simp only[Gd,AG,beq_iff_eq]at F;obtain⟨h2,h3⟩:=F;have hf:Jv .any ops [j] (Zm k f)=true:=by simp[Jv,h3]
  simp only[Rs]at h;obtain⟨M,O,W⟩:=Xb k [] a h;rw[show g+k.length+(([]:List Nat).length+1)=(g+1)+k.length by simp;omega];refine Yw hs hQ R k M O (g+1) _ a p h2 W ?_;intro n U;exact Gg (T:=λ_=>false) (S:=S) (Q:=Q) (P:=P) (md:=.any) [j] [oj] (Zo.cons C Zo.nil) g _ n w _ (Yn k f p h2) R hf (Yp [j] [oj] (Zo.cons C Zo.nil) n w U) L
 | h1 i o r l hi hr ih =>
  intro g f a w p R F h L;simp only[Gd,AG,AR,AS,AH,beq_iff_eq]at F;obtain⟨⟨⟨⟨E,G⟩,aA⟩,I⟩,Z⟩:=F;obtain⟨hA,hB⟩:=h;rw[AT,<- AU];refine⟨λh0=>(by rw[h0]at G;simp at G),λx hx=>?_⟩;rcases E x hx with rfl|rfl
  ·exact AL (λn z q=>⟨λ_=>q.1,ih g _ n z (p.set hx) q.1 Z q.2 L⟩) (step x o hi _ a w hB)
  ·refine AL (λn z q=>⟨λ_=>q.1,?_⟩) (step x oj C _ a w (show Ru P ops Q S (λn z=>Ru P ops Q S (λJ w2=>Yc P ops S (λ_ n=>K n w2) k [] J) (i::r) n z) [x] a w from hA));have W:=Cp (i::r) f x;have X:=Cp k (Zm (i::r) f) x;refine Gg (T:=λ_=>false) (S:=S) (Q:=Q) (P:=P) (md:=.any) (i::r) (o::l) (Zo.cons hi hr) (g+k.length) _ n z _ (p.set hx) q.1 aA (Yp (i::r) (o::l) (Zo.cons hi hr) n z q.2) ?_;intro J w2 D A aB;obtain⟨M,O,Y⟩:=Xb k [] J aB;refine Yw hs hQ D k M O g _ J A I Y ?_;intro a3 V;have B:=Yn k _ A I;rw[W,X]at B⊢;exact L a3 w2 D B V
def Hp:List (Option (Nat×List Nat)×List Nat×List Nat)->Nat
 | []=>0
 | (none,E,m)::r=>Hp r+m.length+E.length
 | (some (_,d),E,m)::r=>Hp r+d.length+(m.length+1)+E.length
def Ja (ops:Array A1):List (Option (Nat×List Nat)×List Nat×List Nat)->Array Bool->Bool
 | [],d=>(AJ .any ops d).isEmpty
 | (none,E,m)::r,d=>Ym .any ops (λ_=>false) E d&&Jv .any ops m (Zm E d)&&(m.all λi=>decide (i<ops.size))&&Ja ops r (Zm m (Zm E d))
 | (some (j,f),E,m)::r,d=>Ym .any ops (λ_=>false) E d&&Gd ops f j m (Zm E d)&&((j::m).all λi=>decide (i<ops.size))&&Ja ops r ((Zm f (Zm m (Zm E d))).setIfInBounds j true)
def Vd (P:A0)(ops:Array A1)(Q:Exit->AB->AC->Prop)(S:AC->Prop):List (Option (Nat×List Nat)×List Nat×List Nat)->AB->AC->Prop
 | [],a,w=>wpList P ops Q [] a w
 | (none,E,m)::r,a,w=>Yc P ops S (λ_ d=>Ru P ops Q S (λf g=>Vd P ops Q S r f g) m d w) E [] a
 | (some (j,h),E,m)::r,a,w=>Yc P ops S (λ_ d=>Rs P ops Q S (λf g=>Vd P ops Q S r f g) j h m d w) E [] a
theorem QR{j:Nat}{E m d:List Nat}{r:List (Option (Nat×List Nat)×List Nat×List Nat)}{a:AB}{w:AC}(h:Yc P ops S (λ_ f=>Rs P ops Q S (λg i=>Vd P ops Q S r g i) j d m f w) E [] a):Vd P ops Q S ((AF (j,d),E,m)::r) a w:=h
theorem QH{E m:List Nat}{r:List (Option (Nat×List Nat)×List Nat×List Nat)}{a:AB}{w:AC}(h:Yc P ops S (λ_ d=>Ru P ops Q S (λf g=>Vd P ops Q S r f g) m d w) E [] a):Vd P ops Q S ((AI,E,m)::r) a w:=h
theorem Pf(h:wpList P ops Q [] a w):Vd P ops Q S [] a w:=h
theorem X9(O:AP ops=true)(M:∀c a d v w,Q (.panic c) (AQ a (AF d) v) w->Q (.panic c) a w) :
  ∀(A:List (Option (Nat×List Nat)×List Nat×List Nat)) (f:Array Bool) (a:AB) (w:AC),Ya .any ops f->S w->Ja ops A f=true->Vd P ops Q S A a w->Vk P .any ops Q S (λ_=>false) (Hp A) f a w:=by
 intro A
 induction A with
 | nil =>
  intro f a w _ _ p h;simp only[Ja,AY]at p;exact⟨p,h⟩
 | cons e r V =>
  obtain⟨o,E,m⟩:=e;intro f a w i F p h;cases o with
  | none =>
   simp only[Ja,AG]at p;obtain⟨⟨⟨z,I⟩,q⟩,J⟩:=p;simp only[Vd]at h;obtain⟨G,K,N⟩:=Xb E [] a h;obtain⟨B,D⟩:=Jp ops m q;refine Yw O M F E G K (Hp r+m.length) _ a i z N ?_;intro C n;refine Gg m B D (Hp r) _ C _ _ (Yn E f i z) F I (Yp m B D C _ n) ?_;intro H R k g L;exact V _ H R g k J L
  | some X =>
   obtain⟨j,U⟩:=X;simp only[Ja,AG,B8,decide_eq_true_eq]at p;obtain⟨⟨⟨z,I⟩,W,q⟩,J⟩:=p;simp only[Vd]at h;obtain⟨G,K,N⟩:=Xb E [] a h;obtain⟨B,D⟩:=Jp ops m q;refine Yw O M F E G K (Hp r+U.length+(m.length+1)) _ a i z N ?_;intro C n;refine V8 O M j U m B D ⟨_,B9 W⟩ (Hp r) _ C _ (Yn E f i z) F I n ?_;intro H R k g L;exact V _ H R g k J L
theorem SW{id:Nat}(S:AC->Prop)(f:List (Option (Nat×List Nat)×List Nat×List Nat))(D:P.follows .mixedOrders=true)(n:(AP ops&&Ja ops f (B3 ops.size false)&&(Hp f==ops.size))=true)(z:∀c a d v w,Q (.panic c) (AQ a (AF d) v) w->Q (.panic c) a w)(A:S w.drew)(h:Vd P ops Q S f a w.drew):(BA id ops true).wp P Q a w:=by
 simp only[AG,beq_iff_eq]at n;obtain⟨⟨p,m⟩,q⟩:=n;refine wp_region_any D (Vt (S:=S) (T:=λ_=>false) _ _ _ _ ?_);generalize C:B3 ops.size false=l at m⊢;have g:Ya .any ops l:=by intro j o B i;have k:j<ops.size:=(AO.1 B).1;subst C;simp[k]at i
 rw[<- q];exact X9 p z f l a w.drew g A m h
end
end Go.Dr
