/- Lemmas. -/
import Derived.Test.YtfdmbomlkpkegaaGreatS20
import Derived.RangeFuncKeeps
import Derived.RangeFuncFrom
set_option maxRecDepth 100000
set_option maxHeartbeats 8000000
set_option linter.all false
set_option autoImplicit true
set_option relaxedAutoImplicit true
open Go renaming Value->AM,World->AC,callsIn_wide->P3
open Go.Builtin renaming append->BQ
open Go.Callee renaming builtin->BP
open Go.Lib renaming hid->BX
open List renaming getElem?_append_left->DO,getElem?_append_right->DP,getElem?_eq_getElem->BY,length_append->BO,mem_of_getElem?->FB,take_length->BZ
open Nat renaming le_trans->BF,zero_le->BW
open Option renaming none->AI,some->AF
namespace Go.Proofs.YtfdmbomlkpkegaaGreat
section
open Go Go.RowKit Go.Shelf
def U7 {α:Type}(F:Fence)(n:Nat)(P:Program)(g:Nat)(lb:Array AM)(d:α->Array AM)(Good:List α->α->AC->Prop)(i:AC->AC->Prop)(S:List α->Prop)(w:AC):Prop :=
 ∀(l:Nat) (J:List α->AC->Prop) (W:AC),i w W->AbidesFrom W.heap.size J ->
  (∀pre x h,J pre h->Good pre x h->YieldAt F (n-1) P l (d x) h λe f=>e=.returned (.bool true)/\J (pre++[x]) f/\i h f) ->
  J [] W ->
  Go.CallsIn F n P g (#[.func (.yield l) #[] #[]]++lb) W λe f=>(∃v,e=.returned v)/\∃xs,S xs/\J xs f
attribute [local go_sem] Oper.semAt_some
structure Xd (n1:Nat)(F:Nat->Prop)(w w':AC):Prop where
 os:w'.os=w.os
 tape:w'.tape=w.tape
 output:w'.output=w.output
 size:w.heap.size<=w'.heap.size
 block:∀b,b<n1->¬F b->w'.heap[b]?=w.heap[b]?
theorem Xd.trans(h:Xd n1 F a b)(k:Xd n1 F b c):Xd n1 F a c :=
 ⟨k.os.trans h.os,k.tape.trans h.tape,k.output.trans h.output,BF h.size k.size,λx f d=>(k.block x f d).trans (h.block x f d)⟩
theorem Xd.keep(h:Xd w.heap.size F w d):Xy F w d:=⟨h.os,h.tape,h.output,h.size,h.block⟩
theorem Xy.to(h:Xy F w d)(i:n1<=w.heap.size):Xd n1 F w d:=⟨h.os,h.tape,h.output,h.size,λb g f=>h.block b (by omega) f⟩
theorem Xd.refl(n1:Nat)(F:Nat->Prop)(w:AC):Xd n1 F w w:=⟨rfl,rfl,rfl,Nat.le_refl _,λ_ _ _=>rfl⟩
theorem Xd.grown(h:w.grownBy d row)(i:n1<=w.heap.size)(f:∀r,row=AF r->n1<=r):Xd n1 F w d :=
 ⟨h.os,h.tape,h.output,h.size,λb g _=>h.block b (by omega) (λe=>by have:=f b e.symm;omega)⟩
theorem Xy.grownBy(h:Xy No w d):w.grownBy d AI:=⟨h.os,h.tape,h.output,h.size,λb f _=>h.block b f id⟩
abbrev SI:=Nat×AM
def JY (x:SI):Array AM:=#[.int .u64 x.1,x.2]
def MT [bn:Ib](base:Nat)(L:Gi)(pre:List SI)(x:SI)(W:AC):Prop :=
 ∃b,L.recs[pre.length]?=AF b/\x.1=L.next-L.recs.length+pre.length/\Qv base W x.2 b
theorem RU[bn:Ib](n:Nat)(hn:1<=n)(h:Zd base w g p sv lv L)(hb:base<=w.heap.size)(hT:ban.top<=w.heap.size)(hx:L.next<=9223372036854775807)(hr:L.recs.length<=L.next)(hl:∀b∈L.recs,b.length<=35184372088832)(I:w.cell? ⟨B,0,AI⟩=AF (.pointer (AF ⟨g,0,AI⟩)))(hF:Uz base w F)(P:∀b,Yg g sv lv b->¬F b)(O:¬F B) :
  U7 Fence.wide n Tryz.prog 103 #[.pointer (AF ⟨B,0,AI⟩)] JY (MT base L) (Xd w.heap.size F) (λxs=>xs.length=L.recs.length) w:=by
 intro l J W hW hJ hY h0;have E:=λ(A:AC) (k:Xd w.heap.size F w A)=>h.keep hF k.keep P;have K:=λ(A:AC) (k:Xd w.heap.size F w A)=>k.keep.cell I O;have j:=λ(A:AC) (k:Xd w.heap.size F w A)=>Em (E A k) hx hr;have C:=λ(A:AC) (k:Xd w.heap.size F w A)=>KC (E A k);have d:=λ(A:AC) (k:Xd w.heap.size F w A) (i:Nat) (b:Qs) (hi:L.recs[i]?=AF b)=>N2 (E A k) hx hr hi (hl b (FB hi));obtain⟨f,hf⟩:∃f,L.next-L.recs.length=f:=⟨_,rfl⟩;rw[hf]at j d;have aC:=K W hW;have S:L.next=f+L.recs.length:=by omega
 have o:=BX (A11 hJ hY j C d K hW h0 hb hT hf);clear hJ hY hW h0 E K j C d h hb hT I hF P O hf hl hr;refine callsIn_of_wp Tryz.func103 rfl trivial ?_ rfl;simp only[Tryz.ntmps103,List.size_toArray,List.length_cons,List.length_nil,Nat.reduceAdd,Nat.reduceSub,Array.replicate_succ,Array.replicate_zero,List.push_toArray,List.append_toArray,List.nil_append,List.cons_append]
 gi_wp2_with (refine⟨trivial,?_⟩;gi_at_call 104;refine(P3.2 (o.out.qc _ o.out.qg)).mono ?_;rintro e W1 ⟨rfl,k1⟩)
 have Q:J [] W1:=o.out.1 [] W W1 AI o.out.qh k1.grownBy (λr e=>by cases e);have T:Xd w.heap.size F w W1:=o.out.2.2.2.2.2.2.1.trans ((k1.no (F:=F)).to o.out.2.2.2.2.2.2.1.size);have HW:=BX (A3 o.out.2.2.2.2.2.2.1.size Q T);clear Q T aC
 gi_loopw [3] (λnv wr=>∃pre:List SI,J pre wr/\pre.length<=L.recs.length/\nv=.int .u64 (f+pre.length:Nat)/\Xd w.heap.size F w wr/\W.heap.size<=wr.heap.size) (λnv _=>L.next-(intOf nv).toNat)
 case atStart=>exact⟨[],HW.out.2.1,BW _,rfl,HW.out.2.2,k1.size⟩
 case round =>
  clear k1;obtain⟨pre,D,Z,rfl,q,N⟩:=hrel;have aD:=o.out.qf _ q;obtain⟨m,X⟩:∃m,m=f+pre.length:=⟨_,rfl⟩;rw[<- X];by_cases G:pre.length<L.recs.length
  ·have M:L.recs[pre.length]?=AF L.recs[pre.length]:=BY G;have d:=o.out.qe _ q pre.length _ M;rw[<- X]at d;generalize L.recs[pre.length]=b at *;have aE:(m:Int)<(L.next:Int):=by omega
   have H:=o.out.qd _ q;have aG:IntKind.u64.wrap ((m:Int)+1)=((m+1:Nat):Int):=by rw[wraps_u64 _ (by omega) (by omega)];omega
   have z:=BX (A6 D M X G q N);clear D M X G q N Z S hx
   gi_wp2_with (first
    | (refine⟨trivial,?_⟩;gi_at_call 106;refine(P3.2 d).mono ?_;rintro e W2 ⟨v2,rfl,aA,k2⟩;have aF:=k2.cell aD id;obtain⟨fn,tmps,assign,body,hy,R⟩:=o.out.2.1 pre (m,v2) W2 (o.out.1 pre _ W2 AI z.out.1 k2.grownBy (λr e=>by cases e)) ⟨b,z.out.2.1,by rw[o.out.rk];exact z.out.qc,aA.bytes (base:=base) (λ_=>BF o.out.qj z.out.2.2.2.2.1.size)⟩;have hy:(Instr.yield l #[.int .u64 m,v2]).run Tryz.prog W2=_:=hy)
    | (refine⟨trivial,?_⟩;gi_at_call 105;refine(P3.2 H).mono ?_;rintro e W3 ⟨rfl,rfl⟩))
   refine R.mono ?_;rintro e W4⟨rfl,aB,V⟩;have U:=z.out.2.2.2.2.1.trans (((k2.no (F:=F)).to z.out.2.2.2.2.1.size).trans V);clear d H hy R
   gi_wp2
   go_roundw;case rel=>exact⟨pre++[(m,v2)],aB,by have:=z.out.qd;simp;omega,by have:=z.out.qc;simp;omega,U,BF z.out.rf (BF k2.size V.size)⟩
   case measure=>have:=z.out.qd;simp[intOf];omega
  ·have aE:¬((m:Int)<(L.next:Int)):=by omega
   have H:=o.out.qd _ q;have Y:pre.length=L.recs.length:=by omega
   have z:=BX (A2 D Y);clear D Y G Z q N S hx X
   gi_wp2_with (refine⟨trivial,?_⟩;gi_at_call 105;refine(P3.2 H).mono ?_;rintro e W3 ⟨rfl,rfl⟩)
   go_end0
   exact⟨⟨_,rfl⟩,pre,z.out.2,z.out.1⟩
end
section
open Go Go.RowKit Go.Shelf Go.Dr
attribute [local go_sem] Oper.semAt_some
theorem RG(w:AC)(g:Nat) :
  Calls Tryz.prog 56 #[.pointer (AF ⟨g,0,AI⟩)] w λe d=>e=.returned (.func (.func 103) #[] #[.pointer (AF ⟨w.heap.size,0,AI⟩)])/\d=w.alloc (.cells #[.pointer (AF ⟨g,0,AI⟩)] 41):=by
 go_enter Tryz.func56,Tryz.ntmps56;go_wp2;go_ret;exact⟨rfl,rfl⟩
theorem Qv.turned[bn:Ib](h:Qv base W v l)(g:W.grownBy j row)(k:∀r,row=AF r->∃o:Obj,W.heap[r]?=AF o/\o.isCells=false):Qv base j v l:=by
 obtain⟨ao,cap,n,d,p,q,w⟩:=h;refine⟨ao,cap,n,d,p,q,λi x A=>?_⟩;obtain⟨m,e,f,z⟩:=w i x A;refine⟨m,e,⟨Nat.lt_of_lt_of_le f.1 g.size,?_,f.qc,BF f.2.2.2 g.size⟩,cell_kept z g k⟩;rcases f.2.1 with d|⟨cs,fr,d⟩
 ·exact .inl d
 ·exact .inr ⟨cs,fr,(grownBy_keeps_cells g k d rfl).trans d⟩
def Gc (Q:Exit->Act->AC->Prop):Exit->Act->AC->Prop
 | .panic _,_,_=>False
 | .normal,a,w=>Q .normal a w
 | .ret,a,w=>Q .ret a w
 | .exit i,a,w=>Q (.exit i) a w
 | .goto t,a,w=>Q (.goto t) a w
 | .outgrown,a,w=>Q .outgrown a w
theorem Ry(h:Gc Q e a w):Q e a w:=by cases e<;>first|exact h|exact h.elim
end
section
open Go Go.RowKit Go.Dr
theorem NQ[bn:Ib](base:Nat)(w:AC):Zp base w (.slice AI 0 0) []:=⟨[],rfl,λi u b h=>by simp at h,World.ownsRow_nil _ _ _ _⟩
theorem Oi[bn:Ib]{o:Oper}(s t:Operand)(S:o.op=Op.call {callee:=BP BQ,args:=#[s,t],argTypes:=#[128,128]})(hs:a.eval s=v)(ht:a.eval t=x)(h:Zp base w v m)(hx:Zp base w x H)(W:m.length+H.length<=1000000)(A:base<=w.heap.size)(hK:∀q d,Zp base d q (m++H)->Xy (λb=>v.ownBlock=AF b) w d->(∀b,q.ownBlock=AF b->v.ownBlock=AF b\/b=w.heap.size)->K (a.put o.dst q) d):o.wp Tryz.prog a w K Q:=by
 have J:=h.foot;obtain⟨us,G,N,f⟩:=h;obtain⟨p,C,B,F⟩:=hx;obtain⟨X,L,T,U,V⟩:=info_parts Lq;have key:∃q d,(Builtin.append_ #[128,128] o.type #[v,x]).run Tryz.prog w=.ok q d/\Zp base d q (m++H)/\Xy (λb=>v.ownBlock=AF b) w d/\(∀b,q.ownBlock=AF b->v.ownBlock=AF b\/b=w.heap.size):=by
  rcases F.2 with⟨rfl,h0⟩|⟨g,cap,Y,rfl,_,hz,h4,h5,h6,h7⟩
  ·obtain rfl:H=[]:=List.eq_nil_of_length_eq_zero h0;refine⟨v,w,?_,⟨us,by simpa using G,by simpa using N,by simpa using f⟩,Xy.refl _ _,λb A=>.inl A⟩;exact run_append_owned_none (P:=Tryz.prog) w base 128 o.type 59 X 1 Tryz.underlying128 L v m.length us f
  ·have E:∀u∈p,u.oneCell'=true:=by intro u hu;obtain⟨i,hi,rfl⟩:=List.getElem_of_mem hu;obtain⟨_,_,e⟩:=(B i p[i] H[i] (BY hi) (BY (by omega))).form;rw[e];rfl
   have z:∀(j:Nat) y,p[j]?=AF y->w.cell? ((⟨g,0,AI⟩:Addr).add j)=AF y:=by
    intro j y R;rw[Addr.add_lit,Qq hz,Nat.zero_add];rw[<- h7,List.getElem?_take]at R
    split at R
    ·simpa using R
    ·cases R
   obtain⟨q,d,n,o1,Z,_,O⟩:=run_append_own_at (P:=Tryz.prog) w base 128 o.type 59 X _ 1 24 Tryz.underlying128 L T U V rfl (by omega) v m.length us f
    ⟨g,0,AI⟩ H.length cap p (by rw[C];omega) z E (by unfold maxLen;omega) (by omega) A
   have M:Xy (λb=>v.ownBlock=AF b) w d:=(Xy.refl _ _).grown Z (λk M=>.inl M);refine⟨q,d,n,⟨us++p,by simp[G,C],?_,?_⟩,M,λb A=>?_⟩
   ·intro i u e D I;by_cases hi:i<us.length
    ·rw[DO hi]at D;rw[DO (by omega)]at I;exact(N i u e D I).keep J M
    ·rw[DP (by omega)]at D;rw[DP (by omega)]at I;rw[G]at D;exact(B _ u e D I).keep J M
   ·rw[BO];exact o1
   ·rcases O with O|O
    ·exact .inl (by rw[<- O];exact A)
    ·right;rw[O]at A;simp at A;exact A.symm
 obtain⟨q,d,n,D,I,h3⟩:=key;unfold Oper.wp;simp[execOp,S,resolve,invoke,builtin,hs,ht,n,Result.andThen];exact hK q d D I h3
theorem Lf[bn:Ib](C:o.guard=AI)(s t:Operand)(k:o.op=Op.call {callee:=BP BQ,args:=#[s,t],argTypes:=#[128,128]})(D:a.eval s=v)(E:a.eval t=x)(h:Zp base w v m)(F:Zp base w x n)(d:m.length+n.length<=1000000)(B:base<=w.heap.size)(A:∀g i,Zp base i g (m++n)->Xy (λb=>v.ownBlock=AF b) w i->(∀b,g.ownBlock=AF b->v.ownBlock=AF b\/b=w.heap.size)->wpList Tryz.prog f Q rest (a.put o.dst g) i):wpList Tryz.prog f Q (o::rest) a w :=
 wpList_plain C λ_ j=>Oi s t k D E h F d B λg i p q z=>j _ _ (A g i p q z)
theorem ZV[bn:Ib](h:R7 base w v ss)(C:base<=w.heap.size)(D:ss.length<=10000)(i:(Qw ss).length<=400000) :
  Calls Tryz.prog 126 #[v] w λe T=>∃S,e=.returned S/\Zp base T S (Qw ss)/\Xy No w T:=by
 obtain⟨ps,p,H⟩:=h;obtain⟨ao,cap,rfl,_,_⟩:=H.form;have E:ps.length=ss.length:=by rw[<- p,List.length_map]
 rw[E]at H⊢;have aA:(ss.length:Int)<=1099511627776:=by omega
 have G:=BX (A4 p H C i);clear p H C E D i;go_enter Tryz.func126,Tryz.ntmps126;go_wp2_with fail;go_loopw [3,8] (λR iv wr=>∃j:Nat,j<=ss.length/\iv=.int .i64 j/\Zp base wr R (Qw (ss.take j))/\(∀b,R.ownBlock=AF b->w.heap.size<=b)/\Xy No w wr) (λ_ iv _=>ss.length-(intOf iv).toNat);case atStart=>exact⟨0,BW _,rfl,by rw[List.take_zero];exact NQ _ _,by simp[Value.ownBlock],Xy.refl _ _⟩
 case round =>
  obtain⟨j,Q,rfl,B,N,A⟩:=hrel;obtain⟨oo,oc,rfl,_,_⟩:=B.form;by_cases d:j<ss.length
  ·have q:ss[j]?=AF ss[j]:=BY d;obtain⟨u,o⟩:=Cu.at G.out.1 q;have m:=G.out.2.1.no A;have z:Qw (ss.take (j+1))=Qw (ss.take j)++(ss[j]).recs:=by rw[List.take_add_one,q,Option.toList_some,Xp];simp[Qw]
   have M:(Qw (ss.take j)).length+(ss[j]).recs.length<=1000000:=by
    have h1:(Qw (ss.take (j+1))).length<=(Qw ss).length:=by
     have:Qw ss=Qw (ss.take (j+1))++Qw (ss.drop (j+1)):=by rw[<- Xp,List.take_append_drop]
     rw[this,BO];omega
    rw[z,BO]at h1;have:=G.out.2.2.2;omega
   generalize ss[j]=s at *;have f:=m.recs _ (FB o);dsimp only at f;obtain⟨lo,lc,rfl,_,_⟩:=f.form;obtain⟨g,rfl,V,W,X,Y,Z,c5⟩:=m.cell o;dsimp only at V W X Y Z c5;have L:(j:Int)<(ss.length:Int):=by omega
   generalize (if s.headed=true then(s.first:Int)else 0)=fi at *;generalize (s.headed && !s.tail.isEmpty)=tb at *;generalize s.bytes.length=U at *;have F:Xy No wr (wr.alloc (.cells #[.int .u64 s.n,.bool s.headed,.int .u64 fi,.slice lo s.recs.length lc,.bool tb,.int .i64 U] 282)):=(Xy.refl _ _).alloc _;have I:=B.keep (Uz.no _ _) F (λ_ _ e=>e);have O:=f.keep (Uz.no _ _) F (λ_ _ e=>e);have K:=BF G.out.qc (A.then F).size;have k:=BX (A4 z d (A.then F) N);clear z d A N B o q m f Q F;go_wp2_with(at_builtin;refine Lf rfl _ _ rfl rfl rfl I O M K ?_;intro v9 w9 J k9 o9);go_roundw;case rel =>
    refine⟨j+1,k.out.2.1,by go_num,by rw[k.out.1];exact J,λb C=>?_,k.out.2.2.1.absorb k9 (λb C=>k.out.2.2.2 b C)⟩;rcases o9 b C with h|h
    ·exact k.out.2.2.2 b h
    ·rw[h];exact k.out.2.2.1.size
   case measure=>have:=k.out.2.1;simp[intOf];omega
  ·obtain rfl:j=ss.length:=by omega
   have L:¬((ss.length:Int)<(ss.length:Int)):=by omega
   rw[BZ]at B;rw[BZ];have P:=BX (A2 B A);clear d Q B A N;go_wp2;go_ret;exact⟨_,rfl,P.out.1,P.out.2⟩
end
end Go.Proofs.YtfdmbomlkpkegaaGreat
