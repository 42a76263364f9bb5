/- Lemmas. -/
import Derived.Test.YtfdmbomlkpkegaaGreatS8
set_option maxRecDepth 100000
set_option maxHeartbeats 8000000
set_option linter.all false
open Go renaming Act->AB,Addr->EK,Oper->A1,Operand->FP,Value->AM,World->AC,maxLen->BH,run_append_own_at->FO,run_append_owned_none->FN,yielded->AW
open Go.Act renaming put->AQ
open Go.Addr renaming add_lit->DZ
open Go.Builtin renaming append->BQ,append_->DX
open Go.Callee renaming builtin->BP
open Go.IntWalk renaming i64_in->EM
open Go.Lib renaming hid->BX
open Go.Op renaming call->FQ
open Go.Region renaming wanted->AV
open Go.Result renaming andThen->BS
open Go.RowKit renaming intOf->C0
open Go.Value renaming ownBlock->DK,slice->DN
open Go.Value.slice renaming injEq->DB
open Go.World renaming ownsRow_made->FS,ownsRow_nil->FI
open Int renaming toNat_natCast->EO
open List renaming append_nil->B5,cons_append->DD,drop_eq_nil_of_le->FL,drop_succ_cons->FK,eq_nil_of_length_eq_zero->BJ,getElem?_append_left->DO,getElem?_append_right->DP,getElem?_drop->FR,getElem?_eq_getElem->BY,getElem?_eq_none_iff->DV,getElem?_eq_some_iff->BK,getElem?_set_ne->FU,getElem?_set_self->FT,getElem?_take->BI,getElem_of_mem->DG,length_append->BO,length_cons->AT,take_append_drop->FM,take_length->BZ,take_of_length_le->DU,take_succ_cons->FJ
open Nat renaming add_assoc->AU,le_refl->BE,le_trans->BF,zero_add->CI,zero_le->BW
open Option renaming none->AI,some->AF
namespace Go.Proofs.YtfdmbomlkpkegaaGreat
section
open Go Go.RowKit Go.Dr
def Zg:Kk->List AM->List AM
 | e::m,u::us=>.int .u64 e.1::u::Zg m us
 | _,_=>[]
def Ze [bn:Ib](base:Nat)(w:AC)(v:AM)(m:Kk):Prop :=
 ∃us:List AM,us.length=m.length/\(∀(i:Nat) u e,us[i]?=AF u->m[i]?=AF e->Qv base w u e.2)/\w.ownsRow base 182 2 v m.length (Zg m us)
theorem Ze.nil[bn:Ib](base:Nat)(w:AC):Ze base w (.slice AI 0 0) []:=⟨[],rfl,λi u c h=>by simp at h,FI _ _ _ _⟩
theorem Ze.form[bn:Ib]{base:Nat}{w:AC}{v:AM}{m:Kk}(h:Ze base w v m):∃ao cap,v=.slice ao m.length cap/\m.length<=cap/\cap<=BH:=by
 obtain⟨us,_,_,_,h⟩:=h;rcases h with⟨rfl,h⟩|⟨g,cap,d,rfl,_,_,f,i,_⟩
 ·exact⟨AI,0,by rw[h],by omega,by decide⟩
 ·exact⟨_,_,rfl,f,i⟩
theorem Ze.kind[bn:Ib]{base:Nat}{w:AC}{v:AM}{m:Kk}(h:Ze base w v m):∀b,v.ownBlock=AF b->base<=b/\∃d,w.heap[b]?=AF (.cells d 182 (0,0)):=by
 intro b f;obtain⟨us,_,_,_,k⟩:=h;rcases k with⟨rfl,_⟩|⟨g,cap,d,rfl,i,j,_⟩
 ·simp[DK]at f
 ·simp[DK]at f;subst f;exact⟨i,d,j⟩
theorem Ze.footOk[bn:Ib]{base:Nat}{w:AC}{v:AM}{m:Kk}(h:Ze base w v m):Uz base w (λb=>v.ownBlock=AF b):=by intro b i;obtain⟨g,f,d⟩:=h.kind b i;exact⟨g,Qt d,λcs fr e=>by rw[d]at e;simp at e⟩
theorem Ze.keep[bn:Ib]{base:Nat}{w j:AC}{v:AM}{m:Kk}{F:Nat->Prop}(h:Ze base w v m)(hF:Uz base w F)(k:Xy F w j)(C:∀b,v.ownBlock=AF b->¬F b):Ze base j v m:=by
 obtain⟨us,n,o,p,f⟩:=h;refine⟨us,n,λi u c D B=>(o i u c D B).keep hF k,p,?_⟩;rcases f with f|⟨g,cap,d,rfl,q,z,A⟩
 ·exact .inl f
 ·exact .inr ⟨g,cap,d,rfl,q,k.heap z (C g rfl),A⟩
theorem Ze.no[bn:Ib]{base:Nat}{w d:AC}{v:AM}{m:Kk}(h:Ze base w v m)(k:Xy No w d):Ze base d v m:=h.keep (Uz.no _ _) k (λ_ _ h=>h)
theorem J5:∀{m:Kk} {us:List AM},us.length=m.length->∀{i:Nat} {e:Int×Qs} {u:AM},m[i]?=AF e->us[i]?=AF u ->
  (Zg m us)[i*2]?=AF (.int .u64 e.1)/\(Zg m us)[i*2+1]?=AF u:=by
 intro m
 induction m with
 | nil=>intro us _ i c u h;simp at h
 | cons x m j =>
  intro us g i c u d f;cases us with
  | nil=>simp at g
  | cons v us =>
   cases i with
   | zero=>simp at d f;subst d f;simp[Zg]
   | succ i =>
    have e:(i+1)*2=i*2+1+1:=by omega
    have:=j (us:=us) (by simpa using g) (i:=i) (e:=c) (u:=u) (by simpa using d) (by simpa using f);simp only[Zg,e];exact⟨by simpa using this.1,by simpa[AU]using this.2⟩
theorem Ze.cells[bn:Ib]{base:Nat}{w:AC}{ao:Option EK}{n cap:Nat}{m:Kk}(h:Ze base w (.slice ao n cap) m)(L:0<m.length) :
  ∃g,ao=AF ⟨g,0,AI⟩/\base<=g/\∀i e,m[i]?=AF e->∃u,Qv base w u e.2/\w.cell? ⟨g,i*2,AI⟩=AF (.int .u64 e.1)/\w.cell? ⟨g,i*2+1,AI⟩=AF u:=by
 obtain⟨us,o,D,M,F⟩:=h;rcases F with⟨_,H⟩|⟨g,G,z,q,f,E,I,J,K,C⟩
 ·omega
 ·simp only[DB]at q;refine⟨g,q.1,f,λi c k=>?_⟩;have hi:i<m.length:=(BK.1 k).1;have p:us[i]?=AF us[i]:=BY (by omega);obtain⟨A,B⟩:=J5 o k p;have cell:∀j x,(Zg m us)[j]?=AF x->w.cell? ⟨g,j,AI⟩=AF x:=by
   intro j x d;rw[Qq E];rw[<- C,BI]at d
   split at d
   ·simpa using d
   ·cases d
  exact⟨us[i],D i _ _ p k,cell _ _ A,cell _ _ B⟩
structure SO (m:Kk)(k:Int)(a:Nat):Prop where
 le:a<=m.length
 low:∀(j:Nat) (e:Int×Qs),j<a->m[j]?=AF e->e.1<k
 high:∀e,m[a]?=AF e->¬e.1<k
theorem Mb{c:Qf}:∀{m:Kk} {a:Nat},a<=m.length->(∀(j:Nat) (e:Int×Qs),j<a->m[j]?=AF e->e.1<c.seg)->Xa m c=m.take a++Xa (m.drop a) c:=by
 intro m a
 induction a generalizing m with
 | zero=>intro _ _;simp
 | succ a k =>
  intro d h;cases m with
  | nil=>simp at d
  | cons e m =>
   have f:=h 0 e (by omega) rfl;have g:=k (m:=m) (by simpa using d) (λj x n i=>h (j+1) x (by omega) (by simpa using i));simp only[FJ,FK,DD,<- g]
   conv=>lhs;unfold Xa
   rw[if_pos f]
theorem Rx{m:Kk}{a:Nat}{e:Int×Qs}(h:m[a]?=AF e):m.drop a=e::m.drop (a+1):=by obtain⟨d,rfl⟩:=BK.1 h;exact List.drop_eq_getElem_cons d
theorem Wo{m:Kk}{c:Qf}{a:Nat}(h:SO m c.seg a){e:Int×Qs}(d:m[a]?=AF e)(g:e.1=c.seg)(f:c.drop=true):Xa m c=m.take a++m.drop (a+1):=by rw[Mb h.le h.low,Rx d];unfold Xa;rw[if_neg (h.high e d),if_pos g,f];rfl
theorem VJ{m:Kk}{c:Qf}{a:Nat}(h:SO m c.seg a){e:Int×Qs}(d:m[a]?=AF e)(g:e.1=c.seg)(f:c.drop=false):Xa m c=m.take a++(c.seg,e.2++c.p)::m.drop (a+1):=by rw[Mb h.le h.low,Rx d];unfold Xa;rw[if_neg (h.high e d),if_pos g,f];rfl
theorem Od{m:Kk}{c:Qf}{a:Nat}(h:SO m c.seg a)(g:∀e,m[a]?=AF e->e.1≠c.seg)(f:c.drop=true):Xa m c=m:=by
 rw[Mb h.le h.low];cases d:m[a]? with
 | none =>
  have:m.drop a=[]:=FL (DV.1 d);rw[this];unfold Xa;rw[f];simp only[if_true];rw[<- this,FM]
 | some e =>
  rw[Rx d];unfold Xa;rw[if_neg (h.high e d),if_neg (g e d),f];simp only[if_true];rw[<- Rx d,FM]
theorem SG{m:Kk}{c:Qf}{a:Nat}(h:SO m c.seg a)(g:∀e,m[a]?=AF e->e.1≠c.seg)(f:c.drop=false):Xa m c=m.take a++(c.seg,c.p)::m.drop a:=by
 rw[Mb h.le h.low];cases d:m[a]? with
 | none =>
  have:m.drop a=[]:=FL (DV.1 d);rw[this];unfold Xa;rw[f];rfl
 | some e =>
  rw[Rx d]
  conv=>lhs;unfold Xa
  rw[if_neg (h.high e d),if_neg (g e d),f];rfl
def Hz [bn:Ib](base:Nat)(w:AC)(x:AM)(m:Kk):Prop :=
 ∃us:List AM,us.length=m.length/\(∀(i:Nat) u e,us[i]?=AF u->m[i]?=AF e->Qv base w u e.2) /\
  ∃ao cap,x=.slice ao m.length cap/\((ao=AI/\m=[]/\cap=0)\/∃d,ao=AF d/\∀(j:Nat) y,(Zg m us)[j]?=AF y->w.cell? (d.add j)=AF y)
theorem Dz:∀{m:Kk} {us:List AM},us.length=m.length->(Zg m us).length=m.length*2:=by
 intro m
 induction m with
 | nil=>intro us _;simp[Zg]
 | cons c m d =>
  intro us h;cases us with
  | nil=>simp at h
  | cons u us=>simp only[Zg,AT,d (us:=us) (by simpa using h)];omega
theorem X3:∀{m:Kk} {us:List AM},(∀u∈us,u.oneCell'=true)->∀x∈Zg m us,x.oneCell'=true:=by
 intro m
 induction m with
 | nil=>intro us _ x h;simp[Zg]at h
 | cons c m g =>
  intro us h x d;cases us with
  | nil=>simp[Zg]at d
  | cons u us =>
   simp only[Zg,List.mem_cons]at d;rcases d with rfl|rfl|d
   ·rfl
   ·exact h _ (by simp)
   ·exact g (λu f=>h u (by simp[f])) x d
theorem Bs:∀{m f:Kk} {us d:List AM},us.length=m.length->Zg (m++f) (us++d)=Zg m us++Zg f d:=by
 intro m
 induction m with
 | nil=>intro f us d h;obtain rfl:=BJ h;rfl
 | cons c m g =>
  intro f us d h;cases us with
  | nil=>simp at h
  | cons u us=>simp only[DD,Zg,g (us:=us) (by simpa using h)]
theorem QV:∀{m:Kk} {us:List AM} (a:Nat),us.length=m.length->Zg (m.take a) (us.take a)=(Zg m us).take (a*2):=by
 intro m
 induction m with
 | nil=>intro us a h;obtain rfl:=BJ h;simp[Zg]
 | cons c m d =>
  intro us a h;cases us with
  | nil=>simp at h
  | cons u us =>
   cases a with
   | zero=>simp[Zg]
   | succ a =>
    have e:(a+1)*2=a*2+1+1:=by omega
    simp only[FJ,Zg,e,d (us:=us) a (by simpa using h)]
theorem QJ:∀{m:Kk} {us:List AM} (a:Nat),us.length=m.length->Zg (m.drop a) (us.drop a)=(Zg m us).drop (a*2):=by
 intro m
 induction m with
 | nil=>intro us a h;obtain rfl:=BJ h;simp[Zg]
 | cons c m d =>
  intro us a h;cases us with
  | nil=>simp at h
  | cons u us =>
   cases a with
   | zero=>simp[Zg]
   | succ a =>
    have e:(a+1)*2=a*2+1+1:=by omega
    simp only[FK,Zg,e,d (us:=us) a (by simpa using h)]
theorem TN:(Tryz.prog.info? 182).map (λi=>(i.zero,i.size,i.bytes))=AF (AF (.agg #[.int .u64 0,.slice AI 0 0]),2,32):=by kernel_rfl
theorem Bh[bn:Ib]{base:Nat}{w:AC}{v x:AM}{m q:Kk}(N:TypeId)(h:Ze base w v m)(G:Hz base w x q)(O:m.length+q.length<=1000000)(j:base<=w.heap.size) :
  ∃I z,(DX #[179,179] N #[v,x]).run Tryz.prog w=.ok I z/\Ze base z I (m++q)/\Xy (λb=>v.ownBlock=AF b) w z/\(∀b,I.ownBlock=AF b->v.ownBlock=AF b\/b=w.heap.size):=by
 have B:=h.footOk;obtain⟨us,f,F,d⟩:=h;obtain⟨g,o,n,ao,cap,rfl,G⟩:=G;obtain⟨Q,C,K,L,M⟩:=info_parts TN;rcases G with⟨rfl,rfl,rfl⟩|⟨R,rfl,G⟩
 ·refine⟨v,w,FN (P:=Tryz.prog) w base 179 N 182 Q 2 Tryz.underlying179 C v m.length (Zg m us) d,⟨us,by simpa using f,by simpa using F,by simpa using d⟩,Xy.refl _ _,λb j=>.inl j⟩
 ·have p:∀u∈g,u.oneCell'=true:=by intro u T;obtain⟨i,hi,rfl⟩:=DG T;obtain⟨_,_,e⟩:=(n i g[i] q[i] (BY hi) (BY (by omega))).form;rw[e];rfl
  obtain⟨I,z,E,U,S,_,H⟩:=FO (P:=Tryz.prog) w base 179 N 182 Q _ 2 32 Tryz.underlying179 C K L M rfl (by omega) v m.length (Zg m us) d
   R q.length cap (Zg q g) (Dz o) G (X3 p) (by unfold BH;omega) (by omega) j
  have D:Xy (λb=>v.ownBlock=AF b) w z:=(Xy.refl _ _).grown S (λk D=>.inl D);refine⟨I,z,E,⟨us++g,by simp[f,o],?_,?_⟩,D,λb j=>?_⟩
  ·intro i u e A J;by_cases hi:i<us.length
   ·rw[DO hi]at A;rw[DO (by omega)]at J;exact(F i u e A J).keep B D
   ·rw[DP (by omega)]at A;rw[DP (by omega)]at J;rw[f]at A;exact(n _ u e A J).keep B D
  ·rw[Bs f,BO];exact U
  ·rcases H with H|H
   ·exact .inl (by rw[<- H];exact j)
   ·right;rw[H]at j;simp at j;exact j.symm
theorem Nw[bn:Ib]{base:Nat}{w:AC}{o:A1}{a:AB}{K:AB->AC->Prop}{Q:Exit->AB->AC->Prop}{v x:AM}{m k:Kk}(s t:FP)(j:o.op=FQ {callee:=BP BQ,args:=#[s,t],argTypes:=#[179,179]})(B:a.eval s=v)(C:a.eval t=x)(h:Ze base w v m)(D:Hz base w x k)(d:m.length+k.length<=1000000)(A:base<=w.heap.size)(z:∀g i,Ze base i g (m++k)->Xy (λb=>v.ownBlock=AF b) w i->(∀b,g.ownBlock=AF b->v.ownBlock=AF b\/b=w.heap.size)->K (a.put o.dst g) i):o.wp Tryz.prog a w K Q:=by obtain⟨g,i,f,n,p,q⟩:=Bh o.type h D d A;unfold Oper.wp;simp[execOp,j,resolve,invoke,builtin,B,C,f,BS];exact z g i n p q
theorem Mm[bn:Ib]{base:Nat}{w:AC}{f:Array A1}{rest:List A1}{o:A1}{a:AB}{Q:Exit->AB->AC->Prop}{v x:AM}{m n:Kk}(C:o.guard=AI)(s t:FP)(k:o.op=FQ {callee:=BP BQ,args:=#[s,t],argTypes:=#[179,179]})(D:a.eval s=v)(E:a.eval t=x)(h:Ze base w v m)(F:Hz base w x n)(d:m.length+n.length<=1000000)(B:base<=w.heap.size)(A:∀g i,Ze base i g (m++n)->Xy (λb=>v.ownBlock=AF b) w i->(∀b,g.ownBlock=AF b->v.ownBlock=AF b\/b=w.heap.size)->wpList Tryz.prog f Q rest (a.put o.dst g) i):wpList Tryz.prog f Q (o::rest) a w :=
 wpList_plain C λ_ j=>Nw s t k D E h F d B λg i p q z=>j _ _ (A g i p q z)
theorem Ze.src[bn:Ib]{base:Nat}{w:AC}{ao:Option EK}{n cap:Nat}{m:Kk}(h:Ze base w (.slice ao n cap) m) :
  n=m.length/\n<=cap/\∃us:List AM,us.length=m.length/\(∀(i:Nat) u e,us[i]?=AF u->m[i]?=AF e->Qv base w u e.2) /\
   ((ao=AI/\m=[]/\cap=0)\/∃g,ao=AF ⟨g,0,AI⟩/\∀(j:Nat) y,(Zg m us)[j]?=AF y->w.cell? ⟨g,j,AI⟩=AF y):=by
 obtain⟨us,d,p,H,D⟩:=h;rcases D with⟨f,z⟩|⟨g,E,q,o,B,C,f,F,G,A⟩
 ·simp at f;obtain rfl:m=[]:=BJ z;exact⟨by simp;omega,by omega,us,d,p,.inl ⟨f.1,rfl,f.2.2⟩⟩
 ·simp only[DB]at o;refine⟨o.2.1,by omega,us,d,p,.inr ⟨g,o.1,λj y k=>?_⟩⟩;rw[Qq C];rw[<- A,BI]at k
  split at k
  ·simpa using k
  ·cases k
theorem Ze.takeIn[bn:Ib]{base:Nat}{w:AC}{ao:Option EK}{n cap:Nat}{m:Kk}(h:Ze base w (.slice ao n cap) m)(a:Nat)(A:a<=m.length):Hz base w (.slice ao a cap) (m.take a):=by
 obtain⟨rfl,B,us,d,p,q⟩:=h.src;have z:(m.take a).length=a:=by simp;omega
 refine⟨us.take a,by simp[d],λi u e f o=>?_,ao,cap,by rw[z],?_⟩
 ·rw[BI]at f o
  split at f
  ·rename_i hi;rw[if_pos hi]at o;exact p i u e f o
  ·cases f
 ·rcases q with⟨rfl,rfl,rfl⟩|⟨g,rfl,q⟩
  ·exact .inl ⟨rfl,by simp,rfl⟩
  ·refine .inr ⟨⟨g,0,AI⟩,rfl,λj y k=>?_⟩;rw[QV a d,BI]at k
   split at k
   ·rw[DZ,CI];exact q j y k
   ·cases k
theorem Ze.dropIn[bn:Ib]{base:Nat}{w:AC}{ao:Option EK}{n cap:Nat}{m:Kk}(h:Ze base w (.slice ao n cap) m)(a:Nat)(B:a<=m.length) :
  Hz base w (.slice (if cap=a then ao else ao.map (·.add (a*2))) (n-a) (cap-a)) (m.drop a):=by
 obtain⟨rfl,C,us,f,k,o⟩:=h.src;have A:(m.drop a).length=m.length-a:=by simp
 refine⟨us.drop a,by simp[f],λi u e p q=>?_,_,_,by rw[A],?_⟩
 ·rw[FR]at p q;exact k _ u e p q
 ·rcases o with⟨rfl,rfl,rfl⟩|⟨g,rfl,o⟩
  ·exact .inl ⟨by simp,by simp,by omega⟩
  ·by_cases z:cap=a
   ·refine .inr ⟨⟨g,0,AI⟩,by rw[if_pos z],λj y d=>?_⟩;have:m.drop a=[]:=FL (by omega);rw[this]at d;simp[Zg]at d
   ·refine .inr ⟨(⟨g,0,AI⟩:EK).add (a*2),by rw[if_neg z];rfl,λj y d=>?_⟩;rw[QJ a f,FR]at d;rw[DZ,DZ,CI];exact o _ y d
theorem Ze.allIn[bn:Ib]{base:Nat}{w:AC}{v:AM}{m:Kk}(h:Ze base w v m):Hz base w v m:=by
 obtain⟨ao,cap,rfl,_,_⟩:=h.form;have:=h.takeIn m.length (BE _)
 rwa [BZ]at this
theorem Ze.made[bn:Ib](base:Nat)(w:AC)(d:base<=w.heap.size):Ze base (w.alloc (.cells #[] 182)) (.slice (AF ⟨w.heap.size,0,AI⟩) 0 0) [] :=
 ⟨[],rfl,λi u c h=>by simp at h,FS w #[] 0 d (by decide) rfl⟩
theorem Ze.one[bn:Ib]{base:Nat}{w:AC}{u:AM}{k:Int}{l:Qs}(h:Qv base w u l)(g:base<=w.heap.size) :
  Ze base (w.alloc (.cells #[.int .u64 k,u] 182)) (.slice (AF ⟨w.heap.size,0,AI⟩) 1 1) [(k,l)]:=by
 refine⟨[u],rfl,λi j c d f=>?_,⟨rfl,.inr ⟨w.heap.size,1,#[.int .u64 k,u],rfl,g,Qy w _,BE _,by decide,by simp,by simp[Zg]⟩⟩⟩
 match i,d,f with
 | 0,d,f=>simp at d f;subst d f;exact h.no ((Xy.refl _ _).alloc _)
def LAt [bn:Ib](base:Nat)(w:AC)(v:AM)(l:List Qf):Prop :=
 ∃us:List AM,us.length=l.length/\(∀(i:Nat) u c,us[i]?=AF u->l[i]?=AF c->Qv base w u c.p)/\w.ownsRow base 244 3 v l.length (Zx l us)
theorem LAt.form[bn:Ib]{base:Nat}{w:AC}{v:AM}{l:List Qf}(h:LAt base w v l):∃ao cap,v=.slice ao l.length cap/\l.length<=cap/\cap<=BH:=by
 obtain⟨us,_,_,_,h⟩:=h;rcases h with⟨rfl,h⟩|⟨g,cap,d,rfl,_,_,f,i,_⟩
 ·exact⟨AI,0,by rw[h],by omega,by decide⟩
 ·exact⟨_,_,rfl,f,i⟩
theorem LAt.cells[bn:Ib]{base:Nat}{w:AC}{ao:Option EK}{n cap:Nat}{l:List Qf}(h:LAt base w (.slice ao n cap) l)(M:0<l.length) :
  ∃g,ao=AF ⟨g,0,AI⟩/\base<=g/\∀i c,l[i]?=AF c->∃u,Qv base w u c.p/\w.cell? ⟨g,i*3,AI⟩=AF (.int .u64 c.seg)/\w.cell? ⟨g,i*3+1,AI⟩=AF u/\w.cell? ⟨g,i*3+2,AI⟩=AF (.bool c.drop):=by
 obtain⟨us,m,E,N,G⟩:=h;rcases G with⟨_,I⟩|⟨g,H,z,q,f,F,J,K,L,D⟩
 ·omega
 ·simp only[DB]at q;refine⟨g,q.1,f,λi c k=>?_⟩;have hi:i<l.length:=(BK.1 k).1;have o:us[i]?=AF us[i]:=BY (by omega);obtain⟨A,B,C⟩:=Lw m k o;have cell:∀j x,(Zx l us)[j]?=AF x->w.cell? ⟨g,j,AI⟩=AF x:=by
   intro j x d;rw[Qq F];rw[<- D,BI]at d
   split at d
   ·simpa using d
   ·cases d
  exact⟨us[i],E i _ _ o k,cell _ _ A,cell _ _ B,cell _ _ C⟩
theorem Cb(m:Kk)(c:Qf):(Xa m c).length<=m.length+1:=by
 induction m with
 | nil=>unfold Xa;split<;>simp
 | cons e m d =>
  unfold Xa
  split
  ·simp;omega
  ·split
   ·split
    ·simp only[AT];omega
    ·simp
   ·split
    ·simp
    ·simp
theorem Fx(m:Kk)(c:Qf):msum (Xa m c)<=msum m+c.p.length:=by
 induction m with
 | nil=>unfold Xa;split<;>simp[msum]
 | cons e m d =>
  unfold Xa
  split
  ·simp only[msum];omega
  ·split
   ·split
    ·simp only[msum];omega
    ·simp only[msum,BO];omega
   ·split
    ·simp only[msum];omega
    ·simp only[msum];omega
theorem JT{m:Kk}:∀{a:Nat} {e:Int×Qs},m[a]?=AF e->e.2.length<=msum m:=by
 induction m with
 | nil=>intro a e h;simp at h
 | cons x m d =>
  intro a e h;cases a with
  | zero=>simp at h;subst h;simp[msum]
  | succ a=>have:=d (by simpa using h);simp only[msum];omega
theorem Ls{l:List Qf}{k:Nat}{c:Qf}(h:l[k]?=AF c):segs6 (l.take (k+1))=Xa (segs6 (l.take k)) c:=by obtain⟨d,rfl⟩:=BK.1 h;rw[List.take_succ_eq_append_getElem d,Gv]
theorem Pn:∀{m:Kk} {us:List AM} {a:Nat} {e:Int×Qs} (l:Qs) (v:AM),us.length=m.length->m[a]?=AF e->Zg (m.set a (e.1,l)) (us.set a v)=(Zg m us).set (a*2+1) v:=by
 intro m
 induction m with
 | nil=>intro us a e l v _ h;simp at h
 | cons x m g =>
  intro us a e l v d h;cases us with
  | nil=>simp at d
  | cons u us =>
   cases a with
   | zero=>simp at h;subst h;simp[Zg]
   | succ a =>
    have f:(a+1)*2+1=a*2+1+1+1:=by omega
    have:=g (us:=us) (a:=a) (e:=e) l v (by simpa using d) (by simpa using h);simp only[List.set_cons_succ,Zg,f,this]
theorem ML{m:Kk}{a:Nat}{e x:Int×Qs}(h:m[a]?=AF e):m.set a x=m.take a++x::m.drop (a+1):=by rw[List.set_eq_take_append_cons_drop,if_pos (BK.1 h).1]
theorem Ze.set[bn:Ib]{base:Nat}{w:AC}{g n cap:Nat}{m:Kk}{a:Nat}{e:Int×Qs}{v:AM}{l:Qs}(h:Ze base w (.slice (AF ⟨g,0,AI⟩) n cap) m)(B:m[a]?=AF e)(L:Qv base w v l) :
  Ze base (w.setCell ⟨g,a*2+1,AI⟩ v) (.slice (AF ⟨g,0,AI⟩) n cap) (m.set a (e.1,l)):=by
 have hF:Uz base w (·=g):=by rintro b rfl;exact h.footOk b rfl
 have D:Xy (·=g) w (w.setCell ⟨g,a*2+1,AI⟩ v):=Xy.setCell (F:=(·=g)) (Xy.refl _ _) (p:=⟨g,a*2+1,AI⟩) (.inl rfl) _;have I:a<m.length:=(BK.1 B).1;obtain⟨us,d,J,j,M⟩:=h;have A:=Dz d;rcases M with⟨C,P⟩|⟨O,N,q,o,z,K,C,E,G,H⟩
 ·omega
 ·simp at o;obtain⟨rfl,rfl,rfl⟩:=o;refine⟨us.set a v,by simp[d],λi u x k j=>?_,?_,.inr ⟨g,cap,q.setIfInBounds (a*2+1) v,by simp,z,Qz K,by simpa using C,E,by simpa using G,?_⟩⟩
  ·by_cases f:a=i
   ·subst f;rw[FT (by omega)]at k;rw[FT (by omega)]at j;simp at k j;subst k j;exact L.keep hF D
   ·rw[FU f]at k;rw[FU f]at j;exact(J i u x k j).keep hF D
  ·rw[Pn l v d B];simpa using A
  ·rw[Pn l v d B,<- H,List.length_set,Array.toList_setIfInBounds,List.take_set]
def YD [bn:Ib](base:Nat)(w:AC)(m:Kk)(e:Ending)(f:AC):Prop :=
 ∃d,e=.returned d/\Ze base f d m/\Xy No w f/\∀b,d.ownBlock=AF b->w.heap.size<=b
theorem ZK[bn:Ib]{base:Nat}{w:AC}{v:AM}{l:List Qf}(h:LAt base w v l)(hb:base<=w.heap.size)(hl:l.length<=1000)(hs:Ri l<=1099511627776) :
  Calls Tryz.prog 80 #[v] w (YD base w (segs6 l)):=by
 obtain⟨ao,cap,rfl,bE,aG⟩:=h.form;have bR:(l.length:Int)<=1000:=by omega
 clear bE aG;go_enter Tryz.func80,Tryz.ntmps80;go_wp2;go_loopw [3,11] (λv i wr=>∃k:Nat,k<=l.length/\i=.int .i64 k/\Ze base wr v (segs6 (l.take k))/\(segs6 (l.take k)).length<=k/\msum (segs6 (l.take k))<=Ri (l.take k)/\Xy No w wr/\∀b,v.ownBlock=AF b->w.heap.size<=b) (λ_ i _=>l.length-(C0 i).toNat);case atStart=>exact⟨0,BW _,rfl,Ze.nil _ _,BE _,BE _,Xy.refl _ _,λb hb=>by simp[DK]at hb⟩
 case round =>
  obtain⟨k,hk,rfl,L,ab,ac,o,C⟩:=hrel;obtain⟨so,sc,rfl,aS,aG⟩:=L.form;by_cases aR:k<l.length
  ·obtain⟨g,rfl,bQ,aB⟩:=h.cells (by omega);have aQ:l[k]?=AF l[k]:=BY aR;obtain⟨u,Y,e0,e1,e2⟩:=aB k _ aQ;have hT:=Ls aQ;generalize l[k]=c at *;generalize segs6 (l.take k)=m at *;obtain⟨uo,uc,rfl⟩:=Y.form;have e0:=o.cell e0 id;have e1:=o.cell e1 id;have e2:=o.cell e2 id;have Y:=Y.no o;have bD:(k:Int)<(l.length:Int):=by omega
   have bS:(m.length:Int)<=1000:=by omega
   have q:=BX (A7 aQ hT aR ab ac aS aG);clear aB aQ hT aR ab ac aS aG;have kA:Xy No wr (wr.alloc (.cells #[.int .u64 c.seg,.slice uo c.p.length uc,.bool c.drop] 244)):=(Xy.refl _ _).alloc _;have D:=Qy wr (.cells #[.int .u64 c.seg,.slice uo c.p.length uc,.bool c.drop] 244);go_upto_block 2 with fail;obtain⟨W,hW⟩:∃W,W=wr.alloc (.cells #[.int .u64 c.seg,.slice uo c.p.length uc,.bool c.drop] 244):=⟨_,rfl⟩;rw[<- hW]at kA D⊢;have HW:=BX hW;clear hW;go_cut [6] (λav wx=>∃a:Nat,av=.int .i64 a/\SO m c.seg a/\Xy No W wx);case first =>
    go_wp2_with fail;go_loopw [6] (λi wx=>∃a:Nat,a<=m.length/\i=.int .i64 a/\(∀(j:Nat) (e:Int×Qs),j<a->m[j]?=AF e->e.1<c.seg)/\Xy No W wx) (λi _=>m.length-(C0 i).toNat);case atStart=>exact⟨0,BW _,rfl,λj e hj=>by omega,Xy.refl _ _⟩
    case round =>
     obtain⟨a,ha,rfl,aC,F⟩:=hrel;by_cases z:a<m.length
     ·obtain⟨g3,rfl,aF,d⟩:=L.cells (by omega);have n:m[a]?=AF m[a]:=BY z;obtain⟨u3,R,x0,x1⟩:=d a _ n;generalize m[a]=e at *;have x0:=(kA.then F).cell x0 id;have y0:=F.cell (Qq D 0) id;simp at y0;have aP:(a:Int)<(m.length:Int):=by omega
      have HL:=BX (A3 aC n z);clear aC n z d x1 R e0 e1 e2 Y;by_cases B:e.1<c.seg
      ·have X:decide (e.1<c.seg)=true:=by simpa using B
       go_wp2;go_quiet (fail);go_wp2;go_roundw;case rel =>
        refine⟨a+1,by have:=HL.out.2.2;omega,by go_num,λj x hj f=>?_,F.drewN _⟩;by_cases bA:j=a
        ·subst bA;rw[HL.out.2.1]at f;simp at f;subst f;exact B
        ·exact HL.out.1 j x (by omega) f
       case measure=>have:=HL.out.2.2;simp[C0];omega
      ·have X:decide (e.1<c.seg)=false:=by simpa using B
       go_wp2;go_quiet (fail);go_wp2;go_meet;exact⟨a,rfl,⟨ha,HL.out.1,λx f=>by rw[HL.out.2.1]at f;simp at f;subst f;have:=B;omega⟩,F.drewN _⟩
     ·have aP:¬(a:Int)<(m.length:Int):=by omega
      have X:decide (a<m.length)=false:=by simpa using z
      have HL:=BX (A3 aC ha z);clear aC ha z aP;go_wp2;go_quiet (fail);go_wp2;go_meet;exact⟨a,rfl,⟨HL.out.2.1,HL.out.1,λx f=>absurd (BK.1 f).1 HL.out.2.2⟩,F.drewN _⟩
   case rest =>
    obtain⟨a,rfl,I,F⟩:=hcut;have kx:=kA.then F;have bP:w.heap.size<=wr.heap.size:=o.size;have L:=L.no kx;have Y:=Y.no kx;have D:=F.heap D id;have o:=o.then kx;have bI:=o.size;have bM:=Qt D;clear kA F kx e0 e1 e2;obtain⟨th,N,O⟩:∃th:Bool,(th=true->∃e,m[a]?=AF e/\e.1=c.seg)/\(th=false->∀e,m[a]?=AF e->e.1≠c.seg):=by
     by_cases X:∃e,m[a]?=AF e/\e.1=c.seg
     ·exact⟨true,λ_=>X,λh=>by cases h⟩
     ·exact⟨false,λh=>(by cases h),λ_ e he hk=>X ⟨e,he,hk⟩⟩
    generalize wr.heap.size=A at *;generalize wc=wa at *;go_upto_region 8 with fail;go_cut [7] (λtv wx=>tv=.bool th/\Xy No wa wx);case first =>
     have y0:=Qq D 0;simp at y0;by_cases z:a<m.length
     ·obtain⟨g3,rfl,aF,d⟩:=L.cells (by omega);have n:m[a]?=AF m[a]:=BY z;obtain⟨u3,R,x0,x1⟩:=d a _ n;generalize m[a]=e at *;have aP:(a:Int)<(m.length:Int):=by omega
      by_cases B:e.1=c.seg
      ·obtain rfl:th=true:=by
        cases th
        ·exact absurd B (O rfl e n)
        ·rfl
       have X:(e.1==c.seg)=true:=by simpa using B
       clear N O n z d x1 R I B;go_quiet (fail);go_wp2;go_meet;exact⟨rfl,(Xy.refl _ _).drewN _⟩
      ·obtain rfl:th=false:=by
        cases th
        ·rfl
        ·obtain⟨e',aH,ap⟩:=N rfl;rw[n]at aH;simp at aH;subst aH;exact absurd ap B
       have X:(e.1==c.seg)=false:=by simpa using B
       clear N O n z d x1 R I B;go_quiet (fail);go_wp2;go_meet;exact⟨rfl,(Xy.refl _ _).drewN _⟩
     ·obtain rfl:th=false:=by
       cases th
       ·rfl
       ·obtain⟨e',aH,ap⟩:=N rfl;exact absurd (BK.1 aH).1 z
      have X:decide (a<m.length)=false:=by simpa using z
      clear N O z I;go_quiet (fail);go_wp2;go_meet;exact⟨rfl,(Xy.refl _ _).drewN _⟩
    case rest =>
     obtain⟨rfl,F⟩:=hcut;have L:=L.no F;have Y:=Y.no F;have D:=F.heap D id;have o:=o.then F;have aw:=o.size;clear F bI;have y0:=Qq D 0;have y1:=Qq D 1;have y2:=Qq D 2;simp at y0 y1 y2;have aD:base<=wc.heap.size:=by omega
     cases hd:c.drop with
     | true =>
      rw[hd]at y2;cases th with
      | true =>
       obtain⟨e,n,B⟩:=N rfl;have hT:=Wo I n B hd;have z:a<m.length:=(BK.1 n).1;have aL:=q.out.qf;have U:=q.out.rg;unfold BH at U;obtain⟨g3,rfl,aF,_⟩:=L.cells (by omega);have i1:(a:Int)<=(sc:Int):=by omega
       have i4:(a:Int)<=1000:=by omega
       have i5:(sc:Int)<=9223372036854775807:=by omega
       obtain⟨b,ae⟩:∃b,b=a+1:=⟨_,rfl⟩;have bJ:IntKind.i64.wrap ((a:Int)+1)=(b:Int):=by rw[EM _ (by omega),ae];omega
       have i2:(b:Int)<=(m.length:Int):=by omega
       have i3:(b:Int)<=(sc:Int):=by omega
       have P:=BX (A3 hT C o);have HA:=BX (A3 z aL ae);clear ae;clear hT C N O I Y D hd o n B z aL U;go_wp2;refine Ql (λw'=>Xy No wc w') [1,2,3,5,6,7,8] [0,4,9] [10] (by kernel_rfl) (by kernel_rfl) (λ_ _ _ _ _ h=>h) (Xy.refl _ _).drew ?_;iterate 7(refine Qk (v:=?_) rfl rfl rfl ?_ ?_;rotate_left;focus(
        intro w' L;go_simp
        try with_reducible rfl))
       refine Qj ?_;refine Qx rfl rfl (λK G=>?_);go_simp;have km:Xy No wc (wc.alloc (.cells #[] 182)).drew:=((Xy.refl _ _).alloc _).drew;refine G _ _ km ?_;clear G K;have Q:=(Ze.made base wc aD).no ((Xy.refl No _).drew);refine Qx rfl rfl (λK G=>?_);refine Nw (v:=.slice (AF ⟨wc.heap.size,0,AI⟩) 0 0) _ _ rfl rfl rfl Q ((L.no km).takeIn a (by have:=HA.out.1;omega)) (by simp;omega) (BF aD km.size) ?_;intro v1 w1 aj S aO;have S:Xy No wc w1:=km.absorb S (λx f=>by have f:AF wc.heap.size=AF x:=f;injection f with f;omega);have aO:∀b,v1.ownBlock=AF b->wc.heap.size<=b:=λb hb=>by
        rcases aO b hb with f|f
        ·have f:AF wc.heap.size=AF b:=f;injection f with f;omega
        ·have:=km.size;omega
       refine G _ _ S ?_;clear G K Q;have H:=(L.no S).dropIn b (by have:=HA.out;omega);simp only[Option.map_some,DZ,CI]at H;refine Qx rfl rfl (λK G=>?_);refine Nw (v:=v1) _ _ rfl rfl ?_ aj H (by simp;omega) (BF aD S.size) ?_
       ·rfl
       intro v2 w2 ak E aT;have E:Xy No wc w2:=S.absorb E aO;have aT:∀b,v2.ownBlock=AF b->wc.heap.size<=b:=λb hb=>by
        rcases aT b hb with f|f
        ·exact aO b f
        ·have:=S.size;omega
       refine G _ _ E ?_;clear G K H;refine Qh (Qu rfl (Qm ?_));have HB:=BX (A3 ak E aT);clear ak E aT aj S aO L bJ;go_wp2;go_roundw;case rel =>
        have ad:[]++m.take a++m.drop b=Xa m c:=by rw[P.out.1,HA.out.2.2,List.nil_append]
        refine⟨k+1,by have:=q.out.qc;omega,by go_num,?_,?_,?_,P.out.2.2.then HB.out.2.1,λb hb=>by have:=HB.out.2.2 b hb;omega⟩
        ·rw[q.out.2.1,<- ad];exact HB.out.1
        ·rw[q.out.2.1];have:=Cb m c;have:=q.out.qd;omega
        ·rw[q.out.2.1,Jj q.out.1];have:=Fx m c;have:=q.out.qe;omega
       case measure=>have:=q.out.qc;simp[C0];omega
      | false =>
       have hT:=Od I (O rfl) hd;have P:=BX (A4 hT L C o);clear hT L C o N O I Y D hd;go_wp2;go_roundw;case rel =>
        refine⟨k+1,by have:=q.out.qc;omega,by go_num,?_,?_,?_,P.out.2.2.2,P.out.qc⟩
        ·rw[q.out.2.1,P.out.1];exact P.out.2.1
        ·rw[q.out.2.1,P.out.1];have:=q.out.qd;omega
        ·rw[q.out.2.1,P.out.1,Jj q.out.1];have:=q.out.qe;omega
       case measure=>have:=q.out.qc;simp[C0];omega
     | false =>
      rw[hd]at y2;cases th with
      | true =>
       obtain⟨e,n,B⟩:=N rfl;have hT:=VJ I n B hd;have z:a<m.length:=(BK.1 n).1;obtain⟨g3,rfl,aF,d⟩:=L.cells (by omega);obtain⟨u3,R,x0,x1⟩:=d a _ n;obtain⟨ag,af,rfl⟩:=R.form;have aP:(a:Int)<(m.length:Int):=by omega
       have bN:e.2.length+c.p.length<=35184372088832:=by have V:=JT n;have Z:=q.out.qe;have h3:=Xe l (k+1);rw[Jj q.out.1]at h3;omega
       have P:=BX (A5 hT C z n B);clear hT C N O I hd n B z d;have aY:=o;go_wp2;refine Ql (λw'=>Xy No wc w') [0,1,2,3,4,5,6,7,8] [9,10] [11,12,13] (by kernel_rfl) (by kernel_rfl) (λ_ _ _ _ _ h=>h) (Xy.refl _ _).drew ?_;iterate 9(refine Qk (v:=?_) rfl rfl rfl ?_ ?_;rotate_left;focus(
        intro w' X;have bU:=X.cell x1 id;have bL:=X.cell y1 id;go_simp
        try with_reducible rfl))
       refine Qj ?_;have E:Xy No wc (wc.alloc (.cells #[.slice ag e.2.length af,.slice uo c.p.length uc] 59)).drew:=((Xy.refl _ _).alloc _).drew;have aN:Zb base (wc.alloc (.cells #[.slice ag e.2.length af,.slice uo c.p.length uc] 59)).drew (.slice (AF ⟨wc.heap.size,0,AI⟩) 2 2) [e.2,c.p] :=
        Zb.of_block (cs:=#[.slice ag e.2.length af,.slice uo c.p.length uc]) (Qy wc _) [e.2,c.p] rfl (by simp[BH]) (λi u' l V Z=>by
         match i,V,Z with
         | 0,V,Z=>simp at V Z;subst V Z;exact R.no ((Xy.refl _ _).alloc _)
         | 1,V,Z=>simp at V Z;subst V Z;exact Y.no ((Xy.refl _ _).alloc _))
       refine Qx rfl rfl (λK G=>?_);go_simp;refine G _ _ E ?_;clear G K;refine Qx rfl rfl (λK G=>?_);go_simp;refine(Xv aN (by simp;omega)).mono ?_;rintro e' w3⟨v3,rfl,M,aI⟩;simp only[];have J:=E.then aI;refine G _ _ J ?_;clear G K;refine Qh (Qu rfl (Qu rfl (Qu rfl (Qm ?_))));have aZ:=L.no J;have am:e.2++c.p≠[]->ban.top<=wc.heap.size:=λaK=>by
        by_cases V:e.2=[]
        ·exact Y.top (λZ=>aK (by simp[V,Z]))
        ·exact R.top V
       have aA:Qv base w3 v3 (e.2++c.p):=by have:=M.bytes (base:=base) (λaK=>BF (am (by simpa using aK)) E.size);simpa using this
       have aM:=aZ.set P.out.qd aA;rw[P.out.re,ML P.out.qd,<- P.out.1]at aM;obtain⟨ai,ah,rfl⟩:=aA.form;have z1:=J.cell x1 id;have fz:w3.frozen? ⟨g3,a*2+1,AI⟩=false:=by obtain⟨_,bO,X⟩:=aZ.kind g3 rfl;exact Qg X _
       have aW:Xy No w (w3.setCell ⟨g3,a*2+1,AI⟩ (.slice ai (e.2++c.p).length ah)) :=
        (aY.then J).setCell (p:=⟨g3,a*2+1,AI⟩) (.inr (P.out.2.1 g3 rfl)) _
       have HB:=BX (A2 aM aW);clear aM aW aZ aA M aI E J aN L Y R x0 x1 y0 y1 y2 D aY o;go_wp2;go_roundw;case rel =>
        obtain⟨q1,q2⟩:=HB.out;rw[BO]at q1 q2;refine⟨k+1,by have:=q.out.qc;omega,by go_num,?_,?_,?_,q2,P.out.2.1⟩
        ·rw[q.out.2.1];exact q1
        ·rw[q.out.2.1];have:=Cb m c;have:=q.out.qd;omega
        ·rw[q.out.2.1,Jj q.out.1];have:=Fx m c;have:=q.out.qe;omega
       case measure=>have:=q.out.qc;simp[C0];omega
      | false =>
       have hT:=SG I (O rfl) hd;have aL:=q.out.qf;have U:=q.out.rg;unfold BH at U;have aV:=I.le;have i1:(a:Int)<=(sc:Int):=by omega
       have i2:(a:Int)<=(m.length:Int):=by omega
       have i4:(a:Int)<=1000:=by omega
       have i5:(sc:Int)<=9223372036854775807:=by omega
       have bT:c.p.length<=35184372088832:=by have h3:=Xe l (k+1);rw[Jj q.out.1]at h3;omega
       have P:=BX (A3 hT C o);have HA:=BX (A2 aV aL);clear hT C N O I hd o aV aL U;go_wp2;refine Ql (λw'=>Xy No wc w') [0,1,2,3,8,9,10] [4,5,6,7,11] [12] (by kernel_rfl) (by kernel_rfl) (λ_ _ _ _ _ h=>h) (Xy.refl _ _).drew ?_;iterate 7(refine Qk (v:=?_) rfl rfl rfl ?_ ?_;rotate_left;focus(
        intro w' X;have bV:=X.cell y0 id;have bL:=X.cell y1 id;go_simp
        try with_reducible rfl))
       refine Qj ?_;have E:Xy No wc (wc.alloc (.cells #[.slice uo c.p.length uc] 59)).drew:=((Xy.refl _ _).alloc _).drew;have aN:Zb base (wc.alloc (.cells #[.slice uo c.p.length uc] 59)).drew (.slice (AF ⟨wc.heap.size,0,AI⟩) 1 1) [c.p] :=
        Zb.of_block (cs:=#[.slice uo c.p.length uc]) (Qy wc _) [c.p] rfl (by simp[BH]) (λi u' l V Z=>by
         match i,V,Z with
         | 0,V,Z=>simp at V Z;subst V Z;exact Y.no ((Xy.refl _ _).alloc _))
       refine Qx rfl rfl (λK G=>?_);go_simp;refine G _ _ E ?_;clear G K;refine Qx rfl rfl (λK G=>?_);go_simp;refine(Xv aN (by simp;omega)).mono ?_;rintro e' w3⟨v3,rfl,M,aI⟩;simp only[];have J:=E.then aI;refine G _ _ J ?_;clear G K;have aA:Qv base w3 v3 c.p:=by have:=M.bytes (base:=base) (λaK=>BF (Y.top (by simpa using aK)) E.size);simpa using this
       obtain⟨ai,ah,rfl⟩:=aA.form;refine Qx rfl rfl (λK G=>?_);go_simp;refine G _ _ J ?_;clear G K;refine Qx rfl rfl (λK G=>?_);go_simp;have kn:Xy No w3 (w3.alloc (.cells #[.int .u64 c.seg,.slice ai c.p.length ah] 182)):=(Xy.refl _ _).alloc _;have aJ:=J.then kn;refine G _ _ aJ ?_;clear G K;have aX:=Ze.one (k:=c.seg) aA (BF aD J.size);have H:=(L.no aJ).dropIn a (by have:=HA.out.1;omega);have an:so.map (·.add (a*2))=so.map (·.add (a*2)):=rfl;refine Qx rfl rfl (λK G=>?_);refine Nw (v:=.slice (AF ⟨w3.heap.size,0,AI⟩) 1 1) _ _ rfl rfl rfl aX H (by simp;omega) (BF aD aJ.size) ?_;intro v4 w4 ax T bF;have T:Xy No wc w4:=aJ.absorb T (λx f=>by have f:AF w3.heap.size=AF x:=f;injection f with f;have:=J.size;omega);refine G _ _ T ?_;clear G K H aX an kn aJ aI E J aN M aA y0 y1 y2 D Y bF;refine Qh (Qu rfl (Qm ?_));have kz:Xy No w4 (w4.alloc (.cells #[] 182)):=(Xy.refl _ _).alloc _;have aE:base<=w4.heap.size:=BF aD T.size;have au:w.heap.size<=w4.heap.size:=BF aw T.size;have Q:=Ze.made base w4 aE;have H:=(L.no (T.then kz)).takeIn a (by have:=HA.out.1;omega);have aq:([]:Kk).length+(m.take a).length<=1000000:=by simp;omega
       have ar:(([]:Kk)++m.take a).length+([(c.seg,c.p)]++m.drop a).length<=1000000:=by simp;omega
       have HK:=BX (A2 (P.out.2.2.then T) au);have HL:=BX (A2 aq ar);clear au aq ar T L aw;go_wp2_with(at_builtin;first
        | (refine Mm (v:=.slice (AF ⟨w4.heap.size,0,AI⟩) 0 0) rfl _ _ rfl rfl rfl Q H HL.out.1 (BF aE kz.size) ?_;intro v5 w5 ay bB bG;have aU:Xy No w4 w5:=kz.absorb bB (λx f=>by have f:AF w4.heap.size=AF x:=f;injection f with f;omega);have al:=(ax.no aU).allIn)
        | (refine Mm (v:=v5) rfl _ _ rfl rfl rfl ay al HL.out.2 (BF aE aU.size) ?_;intro v6 w6 az bC bH))
       go_roundw;case rel =>
        have ad:[]++m.take a++([(c.seg,c.p)]++m.drop a)=Xa m c:=by rw[P.out.1];rfl
        have o5:∀b,v5.ownBlock=AF b->w4.heap.size<=b:=λb hb=>by
         rcases bG b hb with f|f
         ·have f:AF w4.heap.size=AF b:=f;injection f with f;omega
         ·have:=kz.size;omega
        have bK:Xy No w4 w6:=aU.absorb bC o5;refine⟨k+1,by have:=q.out.qc;omega,by go_num,?_,?_,?_,HK.out.1.then bK,λb hb=>?_⟩
        ·rw[q.out.2.1,<- ad];exact az
        ·rw[q.out.2.1];have:=Cb m c;have:=q.out.qd;omega
        ·rw[q.out.2.1,Jj q.out.1];have:=Fx m c;have:=q.out.qe;omega
        ·have:=HK.out.2;rcases bH b hb with f|f
         ·have:=o5 b f;omega
         ·have:=aU.size;omega
       case measure=>have:=q.out.qc;simp[C0];omega
  ·obtain rfl:k=l.length:=by omega
   have e:l.take l.length=l:=BZ;rw[e]at L C aS;have bD:¬(l.length:Int)<(l.length:Int):=by omega
   have HP:Hid (YD base w (segs6 l) (.returned (.slice so (segs6 l).length sc)) wr):=⟨_,rfl,L,o,C⟩;rw[e];clear L ab ac hk aR e aS aG C;go_wp2;go_ret;exact HP.out
structure Qn where
 room:Int
 full:Bool
 l:List Qf
 safe:Int
structure Zs [bn:Ib](base:Nat)(w:AC)(q:Nat)(lv:AM)(x:Qn):Prop where
 blk:w.heap[q]?=AF (.cells #[.int .i64 x.room,.bool x.full,lv,.int .i64 x.safe] 119 (0,0))
 calls:LAt base w lv x.l
 qb:base<=q
theorem Ud(l:List Qf):msum (segs6 l)<=Ri l:=by
 have h:∀(k:Nat),msum (segs6 (l.take k))<=Ri (l.take k):=by
  intro k
  induction k with
  | zero=>simp[segs6,msum]
  | succ k f =>
   cases d:l[k]? with
   | none =>
    have g:=DV.1 d;rw[DU (by omega)];rw[DU g]at f;exact f
   | some c =>
    rw[Ls d,Jj d];have:=Fx (segs6 (l.take k)) c;omega
 have:=h l.length
 rwa [BZ]at this
theorem RF{m:Kk}:∀{k:Nat} {e:Int×Qs},m[k]?=AF e->msum (m.take (k+1))=msum (m.take k)+e.2.length:=by
 induction m with
 | nil=>intro k e h;simp at h
 | cons x m d =>
  intro k e h;cases k with
  | zero=>simp at h;subst h;simp[msum]
  | succ k=>have:=d (k:=k) (by simpa using h);simp only[FJ,msum]at this⊢;omega
theorem XS(m:Kk):∀(k:Nat),msum (m.take k)<=msum m:=by
 induction m with
 | nil=>intro k;simp
 | cons x m d =>
  intro k;cases k with
  | zero=>simp[msum]
  | succ k=>have:=d k;simp only[FJ,msum];omega
theorem UM[bn:Ib]{base:Nat}{w:AC}{q:Nat}{lv:AM}{x:Qn}(h:Zs base w q lv x)(N:base<=w.heap.size)(Q:x.l.length<=1000)(T:Ri x.l<=1099511627776) :
  Calls Tryz.prog 194 #[.pointer (AF ⟨q,0,AI⟩)] w λe U=>e=.returned (.int .i64 (msum (segs6 x.l):Nat))/\Xy No w U:=by
 have F:=Qq h.blk 2;simp at F;have z:=Ud x.l;go_enter Tryz.func194,Tryz.ntmps194;go_wp2_with fail;refine(ZK h.calls N Q (by omega)).mono ?_;rintro e V⟨v,rfl,I,B,S⟩;generalize K:segs6 x.l=m at *;have M:=BX K;clear K;obtain⟨Z,Y,rfl,D,o⟩:=I.form;unfold BH at o;have R:(m.length:Int)<=9223372036854775807:=by omega
 have E:msum m<=35184372088832:=by omega
 clear D o h F z T;go_wp2_with fail;go_loopw [3,12] (λt i wr=>∃k:Nat,k<=m.length/\i=.int .i64 k/\t=.int .i64 (msum (m.take k):Nat)/\Xy No V wr) (λ_ i _=>m.length-(C0 i).toNat);case atStart=>exact⟨0,BW _,rfl,rfl,Xy.refl _ _⟩
 case round =>
  obtain⟨k,P,rfl,rfl,f⟩:=hrel;by_cases j:k<m.length
  ·obtain⟨g,rfl,O,d⟩:=I.cells (by omega);have n:m[k]?=AF m[k]:=BY j;obtain⟨u,L,G,H⟩:=d k _ n;have J:=RF n;have C:=XS m (k+1);generalize m[k]=e at *;obtain⟨uo,uc,rfl⟩:=L.form;have G:=f.cell G id;have H:=f.cell H id;have p:(k:Int)<(m.length:Int):=by omega
   have X:((msum (m.take k):Nat):Int)+(e.2.length:Int)<=35184372088832:=by omega
   have W:(0:Int)<=((msum (m.take k):Nat):Int)+(e.2.length:Int):=by omega
   have A:=BX (A2 J j);clear J j C d n L E;go_wp2;go_roundw;case rel=>exact⟨k+1,by have:=A.out.2;omega,by go_num,by rw[A.out.1];go_num,f.alloc _⟩
   case measure=>have:=A.out.2;simp[C0];omega
  ·have p:¬(k:Int)<(m.length:Int):=by omega
   obtain rfl:k=m.length:=by omega
   have e:m.take m.length=m:=BZ;rw[e];clear p j P e;go_wp2;go_ret;exact⟨by rw[M.out];rfl,B.then f⟩
theorem KH:(Tryz.prog.info? 244).map (λi=>(i.zero,i.size,i.bytes))=AF (AF (.agg #[.int .u64 0,.slice AI 0 0,.bool false]),3,40):=by kernel_rfl
theorem LAt.nil[bn:Ib](base:Nat)(w:AC):LAt base w (.slice AI 0 0) []:=⟨[],rfl,λi u c h=>by simp at h,FI _ _ _ _⟩
theorem LAt.kind[bn:Ib]{base:Nat}{w:AC}{v:AM}{m:List Qf}(h:LAt base w v m):∀b,v.ownBlock=AF b->base<=b/\∃d,w.heap[b]?=AF (.cells d 244 (0,0)):=by
 intro b f;obtain⟨us,_,_,_,k⟩:=h;rcases k with⟨rfl,_⟩|⟨g,cap,d,rfl,i,j,_⟩
 ·simp[DK]at f
 ·simp[DK]at f;subst f;exact⟨i,d,j⟩
theorem LAt.footOk[bn:Ib]{base:Nat}{w:AC}{v:AM}{m:List Qf}(h:LAt base w v m):Uz base w (λb=>v.ownBlock=AF b):=by intro b i;obtain⟨g,f,d⟩:=h.kind b i;exact⟨g,Qt d,λcs fr e=>by rw[d]at e;simp at e⟩
theorem LAt.keep[bn:Ib]{base:Nat}{w j:AC}{v:AM}{m:List Qf}{F:Nat->Prop}(h:LAt base w v m)(hF:Uz base w F)(k:Xy F w j)(C:∀b,v.ownBlock=AF b->¬F b):LAt base j v m:=by
 obtain⟨us,n,o,p,f⟩:=h;refine⟨us,n,λi u c D B=>(o i u c D B).keep hF k,p,?_⟩;rcases f with f|⟨g,cap,d,rfl,q,z,A⟩
 ·exact .inl f
 ·exact .inr ⟨g,cap,d,rfl,q,k.heap z (C g rfl),A⟩
theorem LAt.no[bn:Ib]{base:Nat}{w d:AC}{v:AM}{m:List Qf}(h:LAt base w v m)(k:Xy No w d):LAt base d v m:=h.keep (Uz.no _ _) k (λ_ _ h=>h)
def Gh [bn:Ib](base:Nat)(w:AC)(x:AM)(m:List Qf):Prop :=
 ∃us:List AM,us.length=m.length/\(∀(i:Nat) u e,us[i]?=AF u->m[i]?=AF e->Qv base w u e.p) /\
  ∃ao cap,x=.slice ao m.length cap/\((ao=AI/\m=[]/\cap=0)\/∃d,ao=AF d/\∀(j:Nat) y,(Zx m us)[j]?=AF y->w.cell? (d.add j)=AF y)
theorem Ov:∀{m f:List Qf} {us d:List AM},us.length=m.length->Zx (m++f) (us++d)=Zx m us++Zx f d:=by
 intro m
 induction m with
 | nil=>intro f us d h;obtain rfl:=BJ h;rfl
 | cons c m g =>
  intro f us d h;cases us with
  | nil=>simp at h
  | cons u us=>simp only[DD,Zx,g (us:=us) (by simpa using h)]
theorem X0:∀{m:List Qf} {us:List AM} (a:Nat),us.length=m.length->Zx (m.take a) (us.take a)=(Zx m us).take (a*3):=by
 intro m
 induction m with
 | nil=>intro us a h;obtain rfl:=BJ h;simp[Zx]
 | cons c m d =>
  intro us a h;cases us with
  | nil=>simp at h
  | cons u us =>
   cases a with
   | zero=>simp[Zx]
   | succ a =>
    have e:(a+1)*3=a*3+1+1+1:=by omega
    simp only[FJ,Zx,e,d (us:=us) a (by simpa using h)]
theorem Pt[bn:Ib]{base:Nat}{w:AC}{v x:AM}{m q:List Qf}(N:TypeId)(h:LAt base w v m)(G:Gh base w x q)(O:m.length+q.length<=1000000)(j:base<=w.heap.size) :
  ∃I z,(DX #[117,117] N #[v,x]).run Tryz.prog w=.ok I z/\LAt base z I (m++q)/\Xy (λb=>v.ownBlock=AF b) w z/\(∀b,I.ownBlock=AF b->v.ownBlock=AF b\/b=w.heap.size):=by
 have B:=h.footOk;obtain⟨us,f,F,d⟩:=h;obtain⟨g,o,n,ao,cap,rfl,G⟩:=G;obtain⟨Q,C,K,L,M⟩:=info_parts KH;rcases G with⟨rfl,rfl,rfl⟩|⟨R,rfl,G⟩
 ·refine⟨v,w,FN (P:=Tryz.prog) w base 117 N 244 Q 3 Tryz.underlying117 C v m.length (Zx m us) d,⟨us,by simpa using f,by simpa using F,by simpa using d⟩,Xy.refl _ _,λb j=>.inl j⟩
 ·have p:∀u∈g,u.oneCell'=true:=by intro u T;obtain⟨i,hi,rfl⟩:=DG T;obtain⟨_,_,e⟩:=(n i g[i] q[i] (BY hi) (BY (by omega))).form;rw[e];rfl
  obtain⟨I,z,E,U,S,_,H⟩:=FO (P:=Tryz.prog) w base 117 N 244 Q _ 3 40 Tryz.underlying117 C K L M rfl (by omega) v m.length (Zx m us) d
   R q.length cap (Zx q g) (Wv o) G (Ik p) (by unfold BH;omega) (by omega) j
  have D:Xy (λb=>v.ownBlock=AF b) w z:=(Xy.refl _ _).grown S (λk D=>.inl D);refine⟨I,z,E,⟨us++g,by simp[f,o],?_,?_⟩,D,λb j=>?_⟩
  ·intro i u e A J;by_cases hi:i<us.length
   ·rw[DO hi]at A;rw[DO (by omega)]at J;exact(F i u e A J).keep B D
   ·rw[DP (by omega)]at A;rw[DP (by omega)]at J;rw[f]at A;exact(n _ u e A J).keep B D
  ·rw[Ov f,BO];exact U
  ·rcases H with H|H
   ·exact .inl (by rw[<- H];exact j)
   ·right;rw[H]at j;simp at j;exact j.symm
theorem Cj[bn:Ib]{base:Nat}{w:AC}{o:A1}{a:AB}{K:AB->AC->Prop}{Q:Exit->AB->AC->Prop}{v x:AM}{m k:List Qf}(s t:FP)(j:o.op=FQ {callee:=BP BQ,args:=#[s,t],argTypes:=#[117,117]})(B:a.eval s=v)(C:a.eval t=x)(h:LAt base w v m)(D:Gh base w x k)(d:m.length+k.length<=1000000)(A:base<=w.heap.size)(z:∀g i,LAt base i g (m++k)->Xy (λb=>v.ownBlock=AF b) w i->(∀b,g.ownBlock=AF b->v.ownBlock=AF b\/b=w.heap.size)->K (a.put o.dst g) i):o.wp Tryz.prog a w K Q:=by obtain⟨g,i,f,n,p,q⟩:=Pt o.type h D d A;unfold Oper.wp;simp[execOp,j,resolve,invoke,builtin,B,C,f,BS];exact z g i n p q
theorem Sy[bn:Ib]{base:Nat}{w:AC}{f:Array A1}{rest:List A1}{o:A1}{a:AB}{Q:Exit->AB->AC->Prop}{v x:AM}{m n:List Qf}(C:o.guard=AI)(s t:FP)(k:o.op=FQ {callee:=BP BQ,args:=#[s,t],argTypes:=#[117,117]})(D:a.eval s=v)(E:a.eval t=x)(h:LAt base w v m)(F:Gh base w x n)(d:m.length+n.length<=1000000)(B:base<=w.heap.size)(A:∀g i,LAt base i g (m++n)->Xy (λb=>v.ownBlock=AF b) w i->(∀b,g.ownBlock=AF b->v.ownBlock=AF b\/b=w.heap.size)->wpList Tryz.prog f Q rest (a.put o.dst g) i):wpList Tryz.prog f Q (o::rest) a w :=
 wpList_plain C λ_ j=>Cj s t k D E h F d B λg i p q z=>j _ _ (A g i p q z)
theorem LAt.src[bn:Ib]{base:Nat}{w:AC}{ao:Option EK}{n cap:Nat}{m:List Qf}(h:LAt base w (.slice ao n cap) m) :
  n=m.length/\n<=cap/\∃us:List AM,us.length=m.length/\(∀(i:Nat) u e,us[i]?=AF u->m[i]?=AF e->Qv base w u e.p) /\
   ((ao=AI/\m=[]/\cap=0)\/∃g,ao=AF ⟨g,0,AI⟩/\∀(j:Nat) y,(Zx m us)[j]?=AF y->w.cell? ⟨g,j,AI⟩=AF y):=by
 obtain⟨us,d,q,I,E⟩:=h;rcases E with⟨f,A⟩|⟨g,F,z,o,C,D,f,G,H,B⟩
 ·simp at f;obtain rfl:m=[]:=BJ A;exact⟨by simp;omega,by omega,us,d,q,.inl ⟨f.1,rfl,f.2.2⟩⟩
 ·simp only[DB]at o;refine⟨o.2.1,by omega,us,d,q,.inr ⟨g,o.1,λj y k=>?_⟩⟩;rw[Qq D];rw[<- B,BI]at k
  split at k
  ·simpa using k
  ·cases k
theorem LAt.takeIn[bn:Ib]{base:Nat}{w:AC}{ao:Option EK}{n cap:Nat}{m:List Qf}(h:LAt base w (.slice ao n cap) m)(a:Nat)(A:a<=m.length):Gh base w (.slice ao a cap) (m.take a):=by
 obtain⟨rfl,B,us,d,p,q⟩:=h.src;have z:(m.take a).length=a:=by simp;omega
 refine⟨us.take a,by simp[d],λi u e f o=>?_,ao,cap,by rw[z],?_⟩
 ·rw[BI]at f o
  split at f
  ·rename_i hi;rw[if_pos hi]at o;exact p i u e f o
  ·cases f
 ·rcases q with⟨rfl,rfl,rfl⟩|⟨g,rfl,q⟩
  ·exact .inl ⟨rfl,by simp,rfl⟩
  ·refine .inr ⟨⟨g,0,AI⟩,rfl,λj y k=>?_⟩;rw[X0 a d,BI]at k
   split at k
   ·rw[DZ,CI];exact q j y k
   ·cases k
theorem LAt.allIn[bn:Ib]{base:Nat}{w:AC}{v:AM}{m:List Qf}(h:LAt base w v m):Gh base w v m:=by
 obtain⟨ao,cap,rfl,_,_⟩:=h.form;have:=h.takeIn m.length (BE _)
 rwa [BZ]at this
theorem LAt.made[bn:Ib](base:Nat)(w:AC)(d:base<=w.heap.size):LAt base (w.alloc (.cells #[] 244)) (.slice (AF ⟨w.heap.size,0,AI⟩) 0 0) [] :=
 ⟨[],rfl,λi u c h=>by simp at h,FS w #[] 0 d (by decide) rfl⟩
theorem LAt.one[bn:Ib]{base:Nat}{w:AC}{u:AM}(c:Qf)(h:Qv base w u c.p)(g:base<=w.heap.size) :
  LAt base (w.alloc (.cells #[.int .u64 c.seg,u,.bool c.drop] 244)) (.slice (AF ⟨w.heap.size,0,AI⟩) 1 1) [c]:=by
 refine⟨[u],rfl,λi k j d f=>?_,⟨rfl,.inr ⟨w.heap.size,1,#[.int .u64 c.seg,u,.bool c.drop],rfl,g,Qy w _,BE _,by decide,by simp,by simp[Zx]⟩⟩⟩
 match i,d,f with
 | 0,d,f=>simp at d f;subst d f;exact h.no ((Xy.refl _ _).alloc _)
def Qn.push (x:Qn)(c:Qf):Qn:={x with l:=x.l++[c]}
def MI [bn:Ib](base:Nat)(w:AC)(q:Nat)(lv:AM)(x':Qn)(v:AM)(e:Ending)(f:AC):Prop :=
 e=.returned v/\∃d,Zs base f q d x'/\Xy (·=q) w f/\∀b,d.ownBlock=AF b->lv.ownBlock=AF b\/w.heap.size<=b
theorem Zs.no[bn:Ib]{base:Nat}{w d:AC}{q:Nat}{lv:AM}{x:Qn}(h:Zs base w q lv x)(k:Xy No w d):Zs base d q lv x :=
 ⟨k.heap h.blk id,h.calls.no k,h.qb⟩
theorem Zs.setL[bn:Ib]{base:Nat}{w:AC}{q:Nat}{lv v:AM}{x:Qn}{l:List Qf}(h:Zs base w q lv x)(g:LAt base w v l):Zs base (w.setCell ⟨q,2,AI⟩ v) q v {x with l:=l}:=by
 have d:=h.blk;have hF:Uz base w (·=q):=by rintro b rfl;exact⟨h.qb,Qt d,λcs fr e=>by rw[d]at e;simp at e⟩
 have m:Xy (·=q) w (w.setCell ⟨q,2,AI⟩ v):=Xy.setCell (F:=(·=q)) (Xy.refl _ _) (p:=⟨q,2,AI⟩) (.inl rfl) _;have f:=Qz (i:=2) (u:=v) d;refine⟨by simpa using f,g.keep hF m (λb n e=>?_),h.qb⟩;obtain⟨_,k,j⟩:=g.kind b n;rw[e,d]at j;simp at j
theorem Za{P:Program}{d:Array A1}{Q:Exit->AB->AC->Prop}{S:AC->Prop}{K:AB->AC->Prop}{i:Nat}{r:List Nat}{a:AB}{w:AC}{o:A1}(hi:d.toList[i]?=AF o)(j:AV o (AW d a.tmps)=true)(h:∀f:AB->AC->Prop,(∀a w,S w->Ru P d Q S K r a w->f a w)->o.wp P a w f Q):Ru P d Q S K (i::r) a w:=by unfold Ru;refine⟨o,hi,?_⟩;rw[if_pos j];exact h _ (λa w g h=>⟨g,h⟩)
def Qn.append (x:Qn)(seg:Int)(l:Qs):Qn×Int :=
 if x.full then(x,5)else if x.room<(msum (segs6 x.l):Int)+(l.length:Int)then(x,5)else(x.push ⟨seg,l,false⟩,0)
theorem XA[bn:Ib]{base:Nat}{w:AC}{q:Nat}{lv:AM}{x:Qn}(h:Zs base w q lv x)(o:base<=w.heap.size)(hl:x.l.length<=1000)(hs:Ri x.l<=1099511627776)(seg:Int){u:AM}{l:Qs}(Z:Qv base w u l)(aK:l.length<=1099511627776) :
  Calls Tryz.prog 151 #[.pointer (AF ⟨q,0,AI⟩),.int .u64 seg,u] w (MI base w q lv (x.append seg l).1 (.int .i64 (x.append seg l).2)):=by
 have d0:=Qq h.blk 0;have N:=Qq h.blk 1;have d2:=Qq h.blk 2;simp at d0 N d2;obtain⟨lo,lc,rfl,_,_⟩:=h.calls.form;obtain⟨uo,uc,rfl⟩:=Z.form;have W:=Ud x.l;by_cases U:x.full=true
 ·have D:x.append seg l=(x,5):=by simp[Qn.append,U]
  rw[U]at N;rw[D];have n:=BX h;clear D U Z h W hl hs aK;go_enter Tryz.func151,Tryz.ntmps151;go_wp2;go_quiet (fail);go_wp2;go_ret;exact⟨rfl,_,n.out.no ((Xy.refl _ _).drewN _),((Xy.refl _ _).drewN _),λb o=>.inl o⟩
 ·have I:x.full=false:=by simpa using U
  rw[I]at N;clear U;have hU:=λw' (k:Xy No w w')=>UM (h.no k) (BF o k.size) hl hs;go_enter Tryz.func151,Tryz.ntmps151;go_wp2;refine Ql (λw'=>Xy No w w') [0,1,2,3,4,5,7,8,10,11,12,13] [6,9,14,15] [] (by kernel_rfl) (by kernel_rfl) (λ_ _ _ _ _ h=>h) (Xy.refl _ _).drew ?_;iterate 5(refine Qk (v:=?_) rfl rfl rfl ?_ ?_;rotate_left;focus(
   intro w' T;have aC:=T.cell d0 id;have aD:=T.cell N id;go_simp
   try with_reducible rfl))
  iterate 7(refine Qe (v:=?_) rfl rfl (by first|kernel_rfl|simp[AV,AW,AQ]) ?_ ?_;rotate_left;focus(
   intro w' T;have aC:=T.cell d0 id;have aD:=T.cell N id;go_simp
   try with_reducible rfl))
  refine Qj ?_;refine Za rfl (by first|kernel_rfl|simp[AV,AW,AQ]) (λK d=>?_);go_simp;have kd:Xy No w w.drew:=(Xy.refl _ _).drew;refine(hU _ kd).mono ?_;rintro e z⟨rfl,f⟩;have f:=kd.then f;refine d _ _ f ?_;clear d K hU;have b0:(0:Int)<=(msum (segs6 x.l):Nat)+(l.length:Int):=by omega
  have b1:((msum (segs6 x.l):Nat):Int)+(l.length:Int)<=9223372036854775807:=by omega
  refine Za rfl (by first|kernel_rfl|simp[AV,AW,AQ]) (λK d=>?_);go_simp;refine d _ _ f ?_;clear d K;have j:=h.no f;have aO:IntKind.i64.wrap (((msum (segs6 x.l):Nat):Int)+(l.length:Int))=((msum (segs6 x.l):Nat):Int)+(l.length:Int):=EM _ (by omega);by_cases J:x.room<((msum (segs6 x.l):Nat):Int)+(l.length:Int)
  ·have D:x.append seg l=(x,5):=by simp[Qn.append,I,J]
   have n:=BX (A3 D j f);refine Za rfl (by first|kernel_rfl|simp[AV,AW,AQ]) (λK d=>?_);go_simp;refine d _ _ f ?_;clear d K;refine Qx rfl rfl (λK d=>?_);go_simp;refine d _ _ f ?_;clear d K;refine Qh (Qm ?_);clear D j h Z;go_wp2;go_ret;rw[n.out.1];exact⟨rfl,_,n.out.2.1,n.out.2.2.no,λb o=>.inl o⟩
  ·have D:x.append seg l=(x.push ⟨seg,l,false⟩,0):=by simp[Qn.append,I,J]
   have n:=BX (A3 D j f);refine Za rfl (by first|kernel_rfl|simp[AV,AW,AQ]) (λK d=>?_);go_simp;refine d _ _ f ?_;clear d K;refine Qx rfl rfl (λK d=>?_);go_simp;refine d _ _ f ?_;clear d K;refine Qh (Qm ?_);have G:base<=z.heap.size:=BF o f.size;have kz:Xy No z (z.alloc (.cells #[] 244)):=(Xy.refl _ _).alloc _;have m:=LAt.made base z G;have E:=(j.no kz).calls.allIn;have aI:([]:List Qf).length+x.l.length<=1000000:=by simp;omega
   have aJ:(([]:List Qf)++x.l).length+([⟨seg,l,false⟩]:List Qf).length<=1000000:=by simp;omega
   have aP:=kz.cell (f.cell d2 id) id;have aA:=Z.no f;clear D h Z j f d0 N d2 W hs hl aO b0 b1 J;go_wp2_with(at_builtin;refine Sy (v:=.slice (AF ⟨z.heap.size,0,AI⟩) 0 0) rfl _ _ rfl rfl rfl m E aI (BF G kz.size) ?_;intro v3 O aF aG aM;have A:Xy No z O:=kz.absorb aG (λx g=>by have g:AF z.heap.size=AF x:=g;injection g with g;omega);have aE:=BF G A.size);have k3:Xy No O (O.alloc (.cells #[.slice uo l.length uc] 59)):=(Xy.refl _ _).alloc _;have L:=aA.no A;have Y:Zb base (O.alloc (.cells #[.slice uo l.length uc] 59)) (.slice (AF ⟨O.heap.size,0,AI⟩) 1 1) [l] :=
    Zb.of_block (cs:=#[.slice uo l.length uc]) (Qy O _) [l] rfl (by simp[BH]) (λi u' l P Q=>by
     match i,P,Q with
     | 0,P,Q=>simp at P Q;subst P Q;exact L.no k3)
   refine(Xv Y (by simp;omega)).mono ?_;rintro e w4⟨v4,rfl,C,V⟩;have B:=k3.then V;have M:Qv base w4 v4 l:=by have:=C.bytes (base:=base) (λaL=>BF (L.top (by simpa using aL)) k3.size);simpa using this
   obtain⟨o4,c4,rfl⟩:=M.form;have kB:Xy No w4 (w4.alloc (.cells #[.int .u64 seg,.slice o4 l.length c4,.bool false] 244)):=(Xy.refl _ _).alloc _;have R:=BF aE B.size;have X:=(LAt.one ⟨seg,l,false⟩ M R).allIn;clear Y C V aA L M m E;go_wp2_with(at_builtin;refine Sy (v:=v3) rfl _ _ rfl rfl rfl (aF.no (B.then kB)) X aJ (BF R kB.size) ?_;intro v5 w5 S aH aN;have o3:∀b,v3.ownBlock=AF b->z.heap.size<=b:=(λb o=>by(rcases aM b o with g|g);(have g:AF z.heap.size=AF b:=g;injection g with g;omega);(have:=kz.size;omega));have aB:Xy No z w5:=((A.then B).then kB).absorb aH o3;have H:=n.out.2.1.no aB;have z2:=Qq H.blk 2;have f2:=Qg H.blk 2;simp at z2;obtain⟨o5,c5,rfl,_,_⟩:=S.form);go_ret;rw[n.out.1];refine⟨rfl,_,by simpa[Qn.push]using H.setL S,(n.out.2.2.then aB).no.trans (Xy.setCell (F:=(·=q)) (Xy.refl _ _) (p:=⟨q,2,AI⟩) (.inl rfl) _) (λ_ _ e=>e),λb o=>.inr ?_⟩;have hw:=n.out.2.2.size;rcases aN b (by simpa[DK]using o)with g|g
   ·have:=o3 b g;omega
   ·have P:=kB.size;have Q:=A.size;have h3:=B.size;omega
def Km (l:List Qf)(n:Nat)(torn:Int):List Qf :=
 match l[n]? with
 | none=>[]
 | some c=>if c.drop=false/\0<min torn ((c.p.length:Int)-1)then[⟨c.seg,c.p.take (min torn ((c.p.length:Int)-1)).toNat,false⟩]else[]
def Qn.num (x:Qn)(keep:Int):Nat:=(x.safe+min (max keep 0) ((x.l.length:Int)-x.safe)).toNat
def Qn.found (x:Qn)(keep torn:Int):List Qf:=x.l.take (x.num keep)++Km x.l (x.num keep) torn
def Qn.crash (x:Qn)(keep torn:Int):Qn:={x with l:=x.found keep torn,safe:=(x.found keep torn).length}
def YN [bn:Ib](base:Nat)(w:AC)(x':Qn)(e:Ending)(d:AC):Prop :=
 ∃q lv,e=.returned (.pointer (AF ⟨q,0,AI⟩))/\Zs base d q lv x'/\Xy No w d/\w.heap.size<=q/\∀b,lv.ownBlock=AF b->w.heap.size<=b
theorem JI[bn:Ib]{base:Nat}{w:AC}{q:Nat}{lv:AM}{x:Qn}(h:Zs base w q lv x)(Z:base<=w.heap.size)(hl:x.l.length<=1000)(hs:Ri x.l<=1099511627776)(h0:0<=x.safe)(H:x.safe<=x.l.length)(keep torn:Int)(hk:keep<=9223372036854775807) :
  Calls Tryz.prog 88 #[.pointer (AF ⟨q,0,AI⟩),.int .i64 keep,.int .i64 torn] w (YN base w (x.crash keep torn)):=by
 have d0:=Qq h.blk 0;have L:=Qq h.blk 1;have m:=Qq h.blk 2;have d3:=Qq h.blk 3;simp at d0 L m d3;obtain⟨lo,lc,rfl,aZ,aH⟩:=h.calls.form;unfold BH at aH;obtain⟨s,aJ⟩:∃s:Nat,x.safe=(s:Int):=⟨x.safe.toNat,by omega⟩;rw[aJ]at d3;obtain⟨k,aX⟩:∃k:Nat,min (max keep 0) ((x.l.length:Int)-x.safe)=(k:Int):=⟨(min (max keep 0) ((x.l.length:Int)-x.safe)).toNat,by omega⟩;obtain⟨n,hn⟩:∃n:Nat,n=s+k:=⟨_,rfl⟩;have aD:x.num keep=n:=by unfold Qn.num;omega
 have af:n<=x.l.length:=by omega
 have aT:x.crash keep torn={x with l:=x.l.take n++Km x.l n torn,safe:=((x.l.take n++Km x.l n torn).length:Nat)}:=by simp only[Qn.crash,Qn.found,aD]
 rw[aT];have bK:(x.l.length:Int)<=1000:=by omega
 have W:=BX (A8 aJ aX hn af aZ aH hs H);clear aJ aX hn af aD aT aZ aH hs h0 H;go_enter Tryz.func88,Tryz.ntmps88;go_upto_block 0 with fail;go_cut [7,1] (λa _ V=>a=.int .i64 (n:Int)/\Xy No w V);case first =>
  go_wp2_with fail;go_loopw [7,1] (λa b wr=>∃j:Nat,j<=k/\a=.int .i64 ((s+j:Nat):Int)/\b=.int .i64 (keep-j)/\Xy No w wr) (λa _ _=>x.l.length-(C0 a).toNat);case atStart=>exact⟨0,BW _,rfl,by simp,Xy.refl _ _⟩
  case round =>
   obtain⟨j,hj,rfl,rfl,aB⟩:=hrel;have X:=aB.cell m id;have bE:((s+j:Nat):Int)<=1000:=by have:=W.out;omega
   by_cases z:j<k
   ·have aW:((s+j:Nat):Int)<(x.l.length:Int):=by have:=W.out;omega
    have ax:(0:Int)<keep-(j:Int):=by have:=W.out;omega
    have HX:=BX z;clear z d0 L m d3;go_wp2;go_roundw;case rel=>exact⟨j+1,by have:=HX.out;omega,by go_num,by go_num,aB⟩
    case measure=>have:=HX.out;have:=W.out;simp[C0];omega
   ·obtain rfl:j=k:=by omega
    have ai:s+j=n:=by have:=W.out;omega
    rw[ai]at bE⊢;clear ai;by_cases ag:n<x.l.length
    ·have aW:(n:Int)<(x.l.length:Int):=by omega
     have ax:¬(0:Int)<keep-(j:Int):=by have:=W.out;omega
     clear d0 L m d3 z ag;go_wp2;go_meet;exact⟨rfl,aB⟩
    ·have aW:¬(n:Int)<(x.l.length:Int):=by omega
     clear d0 L m d3 z ag;go_wp2;go_meet;exact⟨rfl,aB⟩
 case rest =>
  obtain⟨rfl,k0⟩:=hcut;generalize wc=w0 at *;have aN:base<=w0.heap.size:=BF Z k0.size;have X:=k0.cell m id;have kz:Xy No w0 (w0.alloc (.cells #[] 244)):=(Xy.refl _ _).alloc _;have aM:=kz.cell X id;have O:=LAt.made base w0 aN;have aI:((n:Nat):Int)<=(lc:Int):=by have:=W.out;omega
  have ab:((lc:Nat):Int)<=9223372036854775807:=by have:=W.out;omega
  have Q:=(h.no (k0.then kz)).calls.takeIn n (by have:=W.out;omega);have az:(x.l.take n).length<=1000:=by simp;omega
  obtain⟨T0,aF⟩:∃T0,T0=x.l.take n:=⟨_,rfl⟩;rw[<- aF]at Q az;have HT:=BX aF;clear aF;have aY:([]:List Qf).length+T0.length<=1000000:=by simp;omega
  have bA:∀c:Qf,T0.length+([c]:List Qf).length<=1000000:=λc=>by simp;omega
  clear d0 L m d3 X;go_upto_region 5 with fail;go_cut [8] (λv V=>LAt base V v T0/\Xy No w V/\∀b,v.ownBlock=AF b->w.heap.size<=b);case first =>
   go_wp2_with(at_builtin;refine Sy (v:=.slice (AF ⟨w0.heap.size,0,AI⟩) 0 0) rfl _ _ rfl rfl rfl O Q aY (BF aN kz.size) ?_;intro v3 B ar ay bG);go_meet;refine⟨by simpa using ar,k0.then (kz.absorb ay (λx E=>by have E:AF w0.heap.size=AF x:=E;injection E with E;omega)),λb Z=>?_⟩;have:=k0.size;rcases bG b Z with E|E
   ·have E:AF w0.heap.size=AF b:=E;injection E with E;omega
   ·have:=kz.size;omega
  case rest =>
   obtain⟨M,k1,A⟩:=hcut;obtain⟨o8,c8,rfl,aR,ad⟩:=M.form;clear kz O Q aY aM aI ab;generalize wc=w1 at *;have I:=h.no k1;have an:base<=w1.heap.size:=BF Z k1.size;have d0:=Qq I.blk 0;have L:=Qq I.blk 1;have m:=Qq I.blk 2;simp at d0 L m;obtain⟨U,C,G⟩:∃U:Bool,(U=true->∃c,x.l[n]?=AF c/\c.drop=false/\0<torn/\1<c.p.length)/\(U=false->Km x.l n torn=[]):=by
    by_cases J:∃c,x.l[n]?=AF c/\c.drop=false/\0<torn/\1<c.p.length
    ·exact⟨true,λ_=>J,λh=>by cases h⟩
    ·refine⟨false,λh=>(by cases h),λ_=>?_⟩;unfold Km;cases d:x.l[n]? with
     | none=>rfl
     | some c =>
      simp only[];rw[if_neg];rintro⟨H,h2⟩;exact J ⟨c,d,H,by omega,by omega⟩
   go_upto_region 6 with fail;go_cut [70] (λtv V=>tv=.bool U/\Xy No w1 V);case first =>
    cases d:x.l[n]? with
    | none =>
     obtain rfl:U=false:=by
      cases U
      ·rfl
      ·obtain⟨c,hc,_⟩:=C rfl;rw[d]at hc;cases hc
     have aU:=DV.1 d;have hi:¬(n:Int)<(x.l.length:Int):=by omega
     clear aU d C G;go_wp2;go_meet;exact⟨rfl,Xy.refl _ _⟩
    | some c =>
     have z:=(BK.1 d).1;have hi:(n:Int)<(x.l.length:Int):=by omega
     obtain⟨g,rfl,av,f⟩:=I.calls.cells (by omega);obtain⟨u,hu,e0,e1,e2⟩:=f n _ d;obtain⟨uo,uc,rfl⟩:=hu.form;have hf:¬(c.drop=false/\0<torn/\1<c.p.length)->U=false:=λhn=>by
      cases U
      ·rfl
      ·obtain⟨c',hc,h⟩:=C rfl;rw[d]at hc;simp at hc;subst hc;exact absurd h hn
     have R:(c.drop=false/\0<torn/\1<c.p.length)->U=true:=λ⟨H,h2,h3⟩=>by
      cases U
      ·have:=G rfl;unfold Km at this;rw[d]at this;simp only[]at this;rw[if_pos ⟨H,by omega⟩]at this;cases this
      ·rfl
     clear f hu z C G d;have bD:(0:Int)<=(c.p.length:Int):=by omega
     cases N:c.drop with
     | true =>
      obtain rfl:=hf (by simp[N]);rw[N]at e2;clear hf R N;go_wp2;go_meet;exact⟨rfl,Xy.refl _ _⟩
     | false =>
      rw[N]at e2;by_cases D:0<torn
      ·by_cases hp:1<c.p.length
       ·obtain rfl:=R ⟨N,D,hp⟩;have bC:(1:Int)<(c.p.length:Int):=by omega
        clear hf R N hp;go_wp2;go_meet;exact⟨rfl,Xy.refl _ _⟩
       ·obtain rfl:=hf (λh=>hp h.2.2);have bC:¬(1:Int)<(c.p.length:Int):=by omega
        clear hf R N hp;go_wp2;go_meet;exact⟨rfl,Xy.refl _ _⟩
      ·obtain rfl:=hf (λh=>D h.2.1);clear hf R N;go_wp2;go_meet;exact⟨rfl,Xy.refl _ _⟩
   case rest =>
    obtain⟨rfl,k2⟩:=hcut;generalize wc=w2 at *;have M:=M.no k2;have I:=I.no k2;have kk:=k1.then k2;have ap:base<=w2.heap.size:=BF Z kk.size;have bH:=kk.size;clear d0 L m k1 an;go_upto_if 70 with fail;go_cut [8] (λv V=>LAt base V v (T0++Km x.l n torn)/\Xy No w V/\∀b,v.ownBlock=AF b->w.heap.size<=b);case first =>
     cases U with
     | false =>
      have hT:=G rfl;clear G C;go_wp2;go_meet;exact⟨by rw[hT,B5];exact M,kk,A⟩
     | true =>
      obtain⟨c,d,N,D,hp⟩:=C rfl;obtain⟨t,R⟩:∃t:Nat,min torn ((c.p.length:Int)-1)=(t:Int):=⟨(min torn ((c.p.length:Int)-1)).toNat,by omega⟩;have aP:Km x.l n torn=[⟨c.seg,c.p.take t,false⟩]:=by unfold Km;rw[d];simp only[];rw[if_pos ⟨N,by omega⟩,R];rfl
      have z:=(BK.1 d).1;have aV:∀g,lo=AF ⟨g,0,AI⟩->g<w.heap.size:=λg hg=>by
       obtain⟨_,bL,hz⟩:=h.calls.kind g (by rw[hg];rfl);exact Qt hz
      have bR:c.p.length<=1099511627776:=by have h3:=Xe x.l (n+1);rw[Jj d]at h3;have:=W.out;omega
      obtain⟨g,ac,av,f⟩:=I.calls.cells (by omega);have bQ:=aV g ac;have bS:q<w.heap.size:=Qt h.blk;obtain⟨u,hu,e0,e1,e2⟩:=f n _ d;have aS:∀ao cap,u=.slice ao c.p.length cap->c.p.length<=cap/\cap<=BH:=λao cap e=>by obtain⟨_,_,J,H,h2,_⟩:=hu;rw[e]at J;simp at J;omega
      obtain⟨uo,uc,rfl⟩:=hu.form;obtain⟨aw,aQ⟩:=aS _ _ rfl;unfold BH at aQ;have m:=Qq I.blk 2;simp at m;rw[ac]at m;have am:=BX (A4 aP R hp D);have hi:(n:Int)<(x.l.length:Int):=by omega
      have bD:(0:Int)<=(c.p.length:Int):=by omega
      clear aP f z N aV G C d;go_upto_if 82 with fail;go_cut [9] (λv V=>v=.int .i64 (t:Int)/\Xy No w2 V);case first =>
       by_cases aU:(c.p.length:Int)<=torn
       ·have e:(c.p.length:Int)-1=(t:Int):=by omega
        clear R hp D;go_wp2;go_meet;exact⟨by first|rfl|rw[e],Xy.refl _ _⟩
       ·have e:torn=(t:Int):=by omega
        have HE:=BX e;clear R hp D e;go_wp2;go_meet;exact⟨by rw[HE.out],Xy.refl _ _⟩
      case rest =>
       obtain⟨rfl,S⟩:=hcut;generalize wc=B at *;have M:=M.no S;have hu:=hu.no S;have aL:=kk.then S;have m:=S.cell m id;have e0:=S.cell e0 id;have e1:=S.cell e1 id;have Y:base<=B.heap.size:=BF Z aL.size;have aq:¬(DN o8 T0.length c8).ownBlock=AF q:=λe=>by have:=A _ e;omega
       have aO:¬(DN o8 T0.length c8).ownBlock=AF g:=λe=>by have:=A _ e;omega
       have bT:(t:Int)<=(uc:Int):=by omega
       have aK:Qv base B (.slice uo t uc) (c.p.take t):=hu.take t (by omega);have bF:(c.p.take t).length=t:=by simp;omega
       have ak:=aL.size;clear R hp D aw aQ I ap kk bH;go_wp2_with fail;refine Ql (λw'=>Xy (λb=>(DN o8 T0.length c8).ownBlock=AF b) B w') [0,1,2,3,4,5,6,7,8,9,10,11,12,13,14,15,16,17,18] [19,20,21,22,23] [24] (by kernel_rfl) (by kernel_rfl) (λ_ _ _ _ _ h=>h) (Xy.refl _ _).drew ?_;iterate 19(refine Qk (v:=?_) rfl rfl rfl ?_ ?_;rotate_left;focus(
        intro w' J;have X:=J.cell m aq;have bO:=J.cell e0 aO;have bP:=J.cell e1 aO;go_simp
        try with_reducible rfl))
       refine Qj ?_;have kD:Xy No B (B.alloc (.cells #[.slice uo t uc] 59)).drew:=((Xy.refl _ _).alloc _).drew;have ah:Zb base (B.alloc (.cells #[.slice uo t uc] 59)).drew (.slice (AF ⟨B.heap.size,0,AI⟩) 1 1) [c.p.take t] :=
        Zb.of_block (cs:=#[.slice uo t uc]) (Qy B _) [c.p.take t] rfl (by simp[BH]) (λi u' l H h2=>by
         match i,H,h2 with
         | 0,H,h2=>simp at H h2;subst H h2;exact aK.no ((Xy.refl _ _).alloc _))
       refine Qx rfl rfl (λK o=>?_);go_simp;refine o _ _ kD.no ?_;clear o K;refine Qx rfl rfl (λK o=>?_);go_simp;refine(Xv ah (by simp;omega)).mono ?_;rintro e' w4⟨v4,rfl,P,k4⟩;simp only[];have T:=kD.then k4;refine o _ _ T.no ?_;clear o K;have aC:Qv base w4 v4 (c.p.take t):=by have:=P.bytes (base:=base) (λbB=>BF (aK.top (by simpa using bB)) kD.size);simpa using this
       obtain⟨bJ,bI,rfl⟩:=aC.form;rw[bF]at aC;refine Qx rfl rfl (λK o=>?_);go_simp;refine o _ _ T.no ?_;clear o K;refine Qx rfl rfl (λK o=>?_);go_simp;have kn:Xy No w4 (w4.alloc (.cells #[.int .u64 c.seg,.slice bJ t bI,.bool false] 244)):=(Xy.refl _ _).alloc _;have F:=T.then kn;refine o _ _ F.no ?_;clear o K;have aE:=(LAt.one ⟨c.seg,c.p.take t,false⟩ aC (BF Y T.size)).allIn;refine Qx rfl rfl (λK o=>?_);refine Cj (v:=.slice o8 T0.length c8) _ _ rfl rfl rfl (M.no F) aE (bA _) (BF Y F.size) ?_;intro v6 w6 au aA aj;have aA:=F.no.trans aA (λ_ _ e=>e);refine o _ _ aA ?_;clear o K;refine Qh (Qu rfl (Qm ?_));have ae:∀b,v6.ownBlock=AF b->w.heap.size<=b:=λb Z=>by
        rcases aj b Z with E|E
        ·exact A b E
        ·have:=F.size;omega
       clear aE kn F aC T k4 kD ah aK P m e0 e1 e2 hu aj;go_wp2;go_meet;exact⟨by rw[am.out.1];exact au,aL.absorb aA (λx E=>A x E),ae⟩
    case rest =>
     obtain⟨M,S,A⟩:=hcut;obtain⟨o8,c8,rfl,aR,ad⟩:=M.form;generalize wc=B at *;have I:=h.no S;have d0:=Qq I.blk 0;have L:=Qq I.blk 1;simp at d0 L;have Y:base<=B.heap.size:=BF Z S.size;have ak:=S.size;obtain⟨T1,aG⟩:∃T1,T1=T0++Km x.l n torn:=⟨_,rfl⟩;rw[<- aG]at M A⊢;have al:=BX aG;clear aG aR ad;go_wp2_with fail;refine Ql (λw'=>Xy No B w') [0,1,2,3,4,5,6,7,8,9,10,11] [12] [13] (by kernel_rfl) (by kernel_rfl) (λ_ _ _ _ _ h=>h) (Xy.refl _ _).drew ?_;iterate 12(refine Qk (v:=?_) rfl rfl rfl ?_ ?_;rotate_left;focus(
      intro w' J;have bM:=J.cell d0 id;have bN:=J.cell L id;go_simp
      try with_reducible rfl))
     refine Qj (Qx rfl rfl (λK o=>?_));go_simp;have kN:Xy No B (B.alloc (.cells #[.int .i64 x.room,.bool x.full,.slice o8 T1.length c8,.int .i64 T1.length] 119)).drew:=((Xy.refl _ _).alloc _).drew;refine o _ _ kN ?_;clear o K;refine Qh (Qu rfl (Qm ?_));go_wp2;go_ret;have e:x.l.take n++Km x.l n torn=T1:=by rw[al.out,HT.out]
     rw[e];exact⟨B.heap.size,_,rfl,⟨Qy B _,M.no kN,Y⟩,S.then kN,ak,A⟩
end
section
open Go Go.RowKit
structure Mf (d:Qr)(x:Qn):Prop where
 room:x.room=d.room
 full:x.full=d.full
 now:Jf (segs6 x.l) d.now
 safe:Jf (segs6 (x.l.take x.safe.toNat)) d.safe
 s0:0<=x.safe
 s1:x.safe<=x.l.length
 wait:d.wait=x.l.drop x.safe.toNat
 kn:Hg d.now
 ks:Hg d.safe
theorem Mf.sum{d:Qr}{x:Qn}(h:Mf d x):msum (segs6 x.l)=msum d.now:=Jf.sum (Ve _).keys h.kn h.now
theorem Mf.push{d:Qr}{x:Qn}(h:Mf d x)(c:Qf):Mf (d.put c) (x.push c):=by
 have f:x.safe.toNat<=x.l.length:=by have:=h.s1;omega
 refine⟨h.room,h.full,?_,?_,h.s0,?_,?_,h.kn.done c,h.ks⟩
 ·simp only[Qn.push,Qr.put];rw[Gv];exact h.now.step (Ve _) h.kn c
 ·simp only[Qn.push,Qr.put];rw[List.take_append_of_le_length f];exact h.safe
 ·simp only[Qn.push,BO];have:=h.s1;omega
 ·simp only[Qn.push,Qr.put];rw[List.drop_append_of_le_length f,h.wait]
theorem Mf.append{d:Qr}{x:Qn}(h:Mf d x)(seg:Int)(l:Qs):Mf (d.append seg l).1 (x.append seg l).1/\(d.append seg l).2=(x.append seg l).2:=by
 unfold Qr.append Qn.append;rw[h.full,h.room,h.sum];by_cases f:d.full=true
 ·simp[f,h]
 ·by_cases g:d.room-(msum d.now:Int)<(l.length:Int)
  ·rw[if_neg f,if_neg f,if_pos g,if_pos (by omega)];exact⟨h,rfl⟩
  ·rw[if_neg f,if_neg f,if_neg g,if_neg (by omega)];exact⟨h.push _,rfl⟩
def Qn.sync (x:Qn):Qn:={x with safe:=x.l.length}
theorem Mf.sync{d:Qr}{x:Qn}(h:Mf d x):Mf d.sync x.sync:=by
 refine⟨h.room,h.full,h.now,?_,by simp[Qn.sync],by simp[Qn.sync],?_,h.kn,h.kn⟩
 ·simp only[Qn.sync,Qr.sync,EO,BZ];exact h.now
 ·simp[Qn.sync,Qr.sync]
theorem Mf.setFull{d:Qr}{x:Qn}(h:Mf d x)(on:Bool):Mf {d with full:=on} {x with full:=on} :=
 ⟨h.room,rfl,h.now,h.safe,h.s0,h.s1,h.wait,h.kn,h.ks⟩
theorem Mf.at{d:Qr}{x:Qn}(h:Mf d x)(j:Nat):d.wait[j]?=x.l[x.safe.toNat+j]?:=by rw[h.wait,FR]
theorem Mf.upto{d:Qr}{x:Qn}(h:Mf d x):∀j,Jf (segs6 (x.l.take (x.safe.toNat+j))) (doneAll (d.wait.take j) d.safe):=by
 intro j
 induction j with
 | zero=>simpa[doneAll]using h.safe
 | succ j g =>
  cases f:d.wait[j]? with
  | none =>
   have i:=DV.1 f;have k:=DV.1 (by rw[<- h.at j];exact f);rw[DU (by omega)]at g⊢;rw[DU i]at g;rw[DU (by omega)];exact g
  | some c =>
   rw[Cg f,<- AU,Ls (by rw[<- h.at j];exact f)];exact g.step (Ve _) (h.ks.doneAll _) c
theorem Mf.crash{d:Qr}{x:Qn}(h:Mf d x)(keep torn:Int):Mf (d.crash keep torn) (x.crash keep torn):=by
 have m:(d.wait.length:Int)=(x.l.length:Int)-x.safe:=by have:=h.s1;have:=h.s0;rw[h.wait,List.length_drop];omega
 have n:x.num keep=x.safe.toNat+Xw d keep:=by unfold Qn.num Xw;rw[m];have:=h.s0;have:=h.s1;omega
 have k:=h.upto (Xw d keep);have i:=h.ks.doneAll (d.wait.take (Xw d keep));rw[<- n]at k;have g:=h.at (Xw d keep);rw[<- n]at g;have f:Jf (segs6 (x.found keep torn)) (Xz d (Xw d keep) torn)/\Hg (Xz d (Xw d keep) torn):=by
  unfold Qn.found Km Xz;rw[g];cases o:x.l[x.num keep]? with
  | none=>simp only[B5];exact⟨k,i⟩
  | some c =>
   simp only[];by_cases j:c.drop=false/\0<min torn ((c.p.length:Int)-1)
   ·rw[if_pos j,if_pos j,Gv];exact⟨k.step (Ve _) i _,i.done _⟩
   ·rw[if_neg j,if_neg j,B5];exact⟨k,i⟩
 refine⟨h.room,h.full,f.1,?_,by simp[Qn.crash],by simp[Qn.crash],?_,f.2,f.2⟩
 ·simp only[Qn.crash,Qr.crash,EO,BZ];exact f.1
 ·simp[Qn.crash,Qr.crash]
end
end Go.Proofs.YtfdmbomlkpkegaaGreat
