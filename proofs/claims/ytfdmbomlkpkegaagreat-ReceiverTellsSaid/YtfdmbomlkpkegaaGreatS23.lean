/- Lemmas. -/
import Derived.Test.YtfdmbomlkpkegaaGreatS22
set_option maxRecDepth 100000
set_option maxHeartbeats 8000000
set_option linter.all false
set_option autoImplicit true
set_option relaxedAutoImplicit true
open Go renaming Calls->DJ,Value->AM,World->AC,bodyPost_ret->FC
open Go.Lib renaming hid->BX
open Go.RowKit renaming intOf->C0
open Go.Value renaming slice->DN
open Go.Value.slice renaming injEq->DB
open Go.World.ownsRow renaming lt->BL
open List renaming append_assoc->B7,drop_eq_getElem_cons->OV,getElem?_eq_getElem->BY,getElem?_eq_some_iff->BK,getElem?_toArray->OU,length_append->BO,length_map->D6,length_take->E9,map_append->O5,mem_of_getElem?->FB,set_set->OW,take_append_drop->FM,take_of_length_le->DU,take_succ_eq_append_getElem->BM
open Nat renaming le_refl->BE,le_trans->BF,zero_le->BW
open Option renaming none->AI,some->AF
namespace Go.Proofs.YtfdmbomlkpkegaaGreat
open Go Go.RowKit Go.Dr
def Xf (w:AC)(b:Nat)(x:Xn):Prop:=∃ao cap,w.heap[b]?=AF (.cells #[.int .u64 x.low,.int .u64 x.width,.slice ao x.set.length cap] 92 (0,0))/\Zy w (.slice ao x.set.length cap) x.set
theorem Xf.keep(h:Xf w b x)(hF:Zn w F)(k:Xy F w d)(i:¬F b):Xf d b x:=by obtain⟨ao,cap,f,g⟩:=h;exact⟨ao,cap,k.heap f i,g.keep hF k⟩
theorem Xf.lt(h:Xf w b x):b<w.heap.size:=by obtain⟨_,_,d,_⟩:=h;exact Qt d
theorem Xf.footR{w:AC}{b:Nat}{x:Xn}(h:Xf w b x):Zn w (·=b):=by obtain⟨_,_,d,_⟩:=h;exact Zn.block d (by decide)
theorem Xf.foot{w:AC}{b base:Nat}{x:Xn}(h:Xf w b x)(f:base<=b):Uz base w (·=b):=by obtain⟨_,_,d,_⟩:=h;rintro c rfl;exact⟨f,Qt d,λcs fr e=>by rw[d]at e;simp at e⟩
theorem Xf.ofV{w:AC}{b:Nat}{g h i:AM}{x:Xn}{ao:Option Addr}{cap:Nat}(d:w.heap[b]?=AF (.cells #[g,h,i] 92 (0,0)))(k:Zy w (.slice ao x.set.length cap) x.set) :
  Xf (((w.setCell ⟨b,0,AI⟩ (.int .u64 x.low)).setCell ⟨b,1,AI⟩ (.int .u64 x.width)).setCell ⟨b,2,AI⟩ (.slice ao x.set.length cap)) b x /\
   Xy (·=b) w (((w.setCell ⟨b,0,AI⟩ (.int .u64 x.low)).setCell ⟨b,1,AI⟩ (.int .u64 x.width)).setCell ⟨b,2,AI⟩ (.slice ao x.set.length cap)):=by
 obtain⟨j,f⟩:=Rz (.int .u64 x.low) (.int .u64 x.width) (.slice ao x.set.length cap) d;exact⟨⟨ao,cap,j,k.keep (Zn.block d (by decide)) f⟩,f⟩
theorem Xr.notIn[bn:Ib](h:Xr base w B v l)(hi:Hx base w i s):∀b,v.ownBlock=AF b->¬b=i:=by rintro b g rfl;obtain⟨_,u,d,_⟩:=hi;obtain⟨_,f,j⟩:=h.kind b g;rw[j]at d;simp at d
theorem Xr.byIn[bn:Ib]{base B i:Nat}{w d:AC}{v:AM}{l:List Qc}{s:InS}(h:Xr base w B v l)(hi:Hx base w i s)(k:Xy (·=i) w d):Xr base d B v l:=h.keep hi.foot k (h.notIn hi)
theorem Xf.notIn[bn:Ib](h:Xf w b x)(hi:Hx base w i s):¬b=i:=by rintro rfl;obtain⟨_,u,d,_⟩:=hi;obtain⟨_,_,f,_⟩:=h;rw[f]at d;simp at d
theorem Xf.byIn[bn:Ib]{base i b:Nat}{w d:AC}{x:Xn}{s:InS}(h:Xf w b x)(hi:Hx base w i s)(k:Xy (·=i) w d):Xf d b x:=h.keep hi.footR k (h.notIn hi)
theorem KN(k:Nat):(Qb (l.drop k)).length<=(Qb l).length:=by
 conv=>rhs;rw[<- FM k l]
 unfold Qb;rw[List.flatMap_append,BO];omega
theorem Xf.cells(h:Xf w b x):∃ao cap,w.cell? ⟨b,0,AI⟩=AF (.int .u64 x.low)/\w.cell? ⟨b,1,AI⟩=AF (.int .u64 x.width)/\w.cell? ⟨b,2,AI⟩=AF (.slice ao x.set.length cap)/\(∀j,w.frozen? ⟨b,j,AI⟩=false) /\
  Nf w (.agg #[.int .u64 x.low,.int .u64 x.width,.slice ao x.set.length cap]) x:=by
 obtain⟨ao,cap,d,f⟩:=h;refine⟨ao,cap,?_,?_,?_,Qg d,_,rfl,f⟩<;>rw[Qq d]<;>rfl
theorem Xf.store{w:AC}{b:Nat}{x y:Xn}{ao:Option Addr}{cap:Nat}(h:Xf w b x)(f:Zy w (.slice ao y.set.length cap) y.set) :
  Xf (((w.setCell ⟨b,0,AI⟩ (.int .u64 y.low)).setCell ⟨b,1,AI⟩ (.int .u64 y.width)).setCell ⟨b,2,AI⟩ (.slice ao y.set.length cap)) b y /\
   Xy (·=b) w (((w.setCell ⟨b,0,AI⟩ (.int .u64 y.low)).setCell ⟨b,1,AI⟩ (.int .u64 y.width)).setCell ⟨b,2,AI⟩ (.slice ao y.set.length cap)):=by
 obtain⟨_,_,d,_⟩:=h;exact Xf.ofV d f
theorem Xr.notBox[bn:Ib](h:Xr base w B v l)(g:Xf w b x):∀c,v.ownBlock=AF c->¬c=b:=by rintro c i rfl;obtain⟨_,_,d,_⟩:=g;obtain⟨_,f,j⟩:=h.kind c i;rw[j]at d;simp at d
def Xs.part (L:Xs)(a:Nat)(l:List Qc)(k:Nat):Xs:={L with recs:=L.recs++(l.take k).map (λx=>⟨a,x.n,x.s⟩)}
theorem Zv.endCells[bn:Ib](h:Zv base w q g m lv L) :
  w.cell? ⟨q,114,AI⟩=AF lv/\w.cell? ⟨q,115,AI⟩=AF (.int .i64 L.safe)/\w.cell? ⟨q,116,AI⟩=AF (.map (AF m)):=by
 obtain⟨ags,d,f⟩:=h.blk;obtain⟨i,j,k⟩:=XU (g:=g) (inc:=L.inc) (lv:=lv) (safe:=L.safe) (m:=m) f.seven f.len;rw[Qq d,Qq d,Qq d];exact⟨(OU ..).trans i,(OU ..).trans j,(OU ..).trans k⟩
theorem T6{L:Xs}(d:L.Ok width)(i:L.can (.put a b l))(o:l[k]?=AF z):∀r∈(L.part a l k).recs,¬(r.who=a/\r.n=z.n):=by
 have h:=(d.step i).once;obtain⟨j,f⟩:=BK.1 o;have e:(L.step (.put a b l)).recs=(L.part a l k).recs++(⟨a,z.n,z.s⟩ :: (l.drop (k+1)).map (λx=>⟨a,x.n,x.s⟩)):=by
  have g:l.map (λx:Qc=>(⟨a,x.n,x.s⟩:Hk))=(l.take k).map (λx:Qc=>(⟨a,x.n,x.s⟩:Hk))++(⟨a,z.n,z.s⟩ :: (l.drop (k+1)).map (λx:Qc=>(⟨a,x.n,x.s⟩:Hk))):=by
   conv=>lhs;rw[<- FM k l,OV j,f,O5,List.map_cons]
  show L.recs++l.map _=(L.recs++_)++_;rw[g,B7]
 rw[e]at h;intro r m;exact(List.pairwise_append.1 h).2.2 r m ⟨a,z.n,z.s⟩ List.mem_cons_self
theorem RB{a:Nat}{L:Xs}{l:List Qc}{k:Nat}{z:Qc}(f:l[k]?=AF z):L.part a l (k+1)={L.part a l k with recs:=(L.part a l k).recs++[⟨a,z.n,z.s⟩]}:=by obtain⟨d,rfl⟩:=BK.1 f;unfold Xs.part;rw[BM d,O5,B7];rfl
theorem Zv.grow[bn:Ib]{base:Nat}{w H M i:AC}{q g m:Nat}{lv d:AM}{L:Xs}{r:Hk}(h:Zv base w q g m lv L)(P:YG H m (L.recs++[r]))(K:Xy (·=m) w H)(G:Xy No H M)(I:Yi base i d (L.recs++[r]))(F:Xy (λc=>lv.ownBlock=AF c) M i) :
  Zv base (i.setCell ⟨q,114,AI⟩ d) q g m d {L with recs:=L.recs++[r]}/\Xy (Kw q m lv) w (i.setCell ⟨q,114,AI⟩ d):=by
 obtain⟨n,A,B⟩:=h.apart;have C:=h.footR;have j:Xy (Kw q m lv) w i:=((K.mono (λx _ e=>.inr (.inl e))).then G).trans F (λx _ e=>.inr (.inr e));have p:=h.blk;obtain⟨ags,Q,k⟩:=p;have R:Xy (λc=>c=m\/lv.ownBlock=AF c) w i:=((K.mono (λx _ e=>.inl e)).then G).trans F (λx _ e=>.inr e);have f:=R.heap Q (λe=>by rcases e with e|e;exact n e;exact A e);have o:=k.keep C j;have E:Zn i (·=q):=Zn.block f (by decide);have D:d.ownBlock≠AF q:=λe=>by obtain⟨_,N,J⟩:=I.kind _ e;rw[f]at J;simp at J
 have z:Xy (·=q) i (i.setCell ⟨q,114,AI⟩ d):=Qd _ _;refine⟨⟨⟨ags,?_,o.keep E z⟩,I.keep ?_ z (λb O e=>D (by rw[O,show b=q from e])),((P.keep G id).keep F (λe=>B e)).keep z (λe=>n e.symm),h.qb,h.mb⟩,j.trans z (λx _ e=>.inl e)⟩
 ·rw[Qz f,Jq,Ic d k.seven k.len]
 ·rintro b rfl;exact⟨h.qb,Qt f,λcs fr e=>by rw[f]at e;simp at e⟩
theorem In(u1 u2 u3:AM)(h:∀a∈ags,a.length=7)(hi:ags[i]?=AF c) :
  (((Xq g inc ags lv safe m).set (2+i*7+1) u1).set (2+i*7+2) u2).set (2+i*7+3) u3=Xq g inc (ags.set i (((c.set 1 u1).set 2 u2).set 3 u3)) lv safe m:=by
 have n:=(BK.1 hi).1;have k:=h c (FB hi);have j:∀d:List AM,d.length=7->∀a∈ags.set i d,a.length=7:=λd o a f=>by
  rcases List.mem_or_eq_of_mem_set f with f|rfl
  ·exact h a f
  ·exact o
 rw[Je u1 h hi (by decide),Je (i:=i) (a:=c.set 1 u1) u2 (j _ (by simp[k])) (by simp[n]) (by decide),OW,
  Je (i:=i) (a:=(c.set 1 u1).set 2 u2) u3 (j _ (by simp[k])) (by simp[n]) (by decide),OW]
theorem Zv.setNow[bn:Ib]{base:Nat}{w:AC}{q g m a:Nat}{lv:AM}{L:Xs}{x:AgS}(h:Zv base w q g m lv L)(o:L.ag[a]?=AF x)(y:Xn){ao:Option Addr}{cap:Nat}(C:Zy w (.slice ao y.set.length cap) y.set) :
  Zv base (((w.setCell ⟨q,2+a*7+1,AI⟩ (.int .u64 y.low)).setCell ⟨q,2+a*7+2,AI⟩ (.int .u64 y.width)).setCell ⟨q,2+a*7+3,AI⟩ (.slice ao y.set.length cap)) q g m lv {L with ag:=L.ag.modify a (λg=>{g with now:=y})} /\
   Xy (·=q) w (((w.setCell ⟨q,2+a*7+1,AI⟩ (.int .u64 y.low)).setCell ⟨q,2+a*7+2,AI⟩ (.int .u64 y.width)).setCell ⟨q,2+a*7+3,AI⟩ (.slice ao y.set.length cap)):=by
 obtain⟨hF,n,_⟩:=h.set 0 (.bool true);have k:=((Qd (g:=q) (i:=2+a*7+1) w (.int .u64 y.low)).setCell (p:=⟨q,2+a*7+2,AI⟩) (.inl rfl) (.int .u64 y.width)).setCell (p:=⟨q,2+a*7+3,AI⟩) (.inl rfl) (.slice ao y.set.length cap);obtain⟨f,j,z⟩:=h.apart;obtain⟨ags,D,d⟩:=h.blk;obtain⟨ns,ss,e,E,A⟩:=d.at' a x o;refine⟨⟨⟨ags.set a (Ki {x with now:=y} (.slice ao y.set.length cap) ss),?_,?_⟩,h.recs.keep hF k (λb B e=>j (by rw[B,show b=q from e])),h.by'.keep k (λe=>f e.symm),h.qb,h.mb⟩,k⟩
 ·rw[Qz (Qz (Qz D)),Jq,Jq,Jq,In _ _ _ d.seven e];rfl
 ·show Hu _ _ (L.ag.modify a (λg=>{g with now:=y}));rw[Gk _ o];exact(d.keep n k).set o (y:={x with now:=y}) (C.keep n k) (A.keep n k)
structure MS [bn:Ib](base i:Nat)(w wx:AC)(b7:Nat)(s:InS)(y:Xn):Prop where
 inp:Hx base wx i s
 box:Xf wx b7 y
 new:w.heap.size<=b7
 k:Xy (·=i) w wx
theorem Ir[bn:Ib](h:Zv base w q g m lv L)(bT:L.Ok width)(hi:Hx base w i ⟨numB a++(numB b++(numB l.length++Qb l)),0⟩)(N:L.can (.put a b l))(ay:(Qb l).length<=1073741824)(bC:L.recs.length<=1073741824)(hb:base<=w.heap.size)(hT:ban.top<=w.heap.size) :
  DJ Tryz.prog 111 #[.pointer (AF ⟨q,0,AI⟩),.pointer (AF ⟨i,0,AI⟩)] w λe w'=>e=.returned (.bool true)/\∃aC,Zv base w' q g m aC (L.step (.put a b l))/\Xy (λc=>Kw q m lv c\/c=i) w w'/\(∀c,aC.ownBlock=AF c->lv.ownBlock=AF c\/w.heap.size<=c):=by
 obtain⟨aK,ap,aw,aE,p⟩:=id N;obtain⟨x,E,ak,cO,_⟩:=bT.at aK;rw[cO]at p;have cg:=Qp (n:=l.length) (by omega);have cW:=Qp (n:=b) (by omega);have cV:=Qp (n:=a) (by omega);have aF:=Gx (n:=a) (by omega) (numB b++(numB l.length++Qb l));have aU:=Gx (n:=b) (by omega) (numB l.length++Qb l);have cE:=Gx (n:=l.length) (by omega) (Qb l);have aS:(numB b++(numB l.length++Qb l)).length<=1099511627776:=by simp only[BO];omega
 have aT:(numB l.length++Qb l).length<=1099511627776:=by simp only[BO];omega
 have aR:(numB a++(numB b++(numB l.length++Qb l))).length<=1099511627776:=by simp only[BO];omega
 have h1:=Q4 hi aR (by rw[aF];exact aK);rw[aF]at h1;have bX:=ak.fine.skip (b:=b) (by omega);have bA:=ak.now.pre;have cN:∀r∈x.now.set,r.2<9223372036854775807:=λr hr=>by have:=ak.below _ (ak.now.set.last hr);omega
 obtain⟨s1,ac⟩:∃s1:InS,s1=⟨numB b++(numB l.length++Qb l),0⟩:=⟨_,rfl⟩;obtain⟨s2,bW⟩:∃s2:InS,s2=⟨numB l.length++Qb l,0⟩:=⟨_,rfl⟩;have aX:s1.num=(b,s2):=by rw[ac,bW];exact aU
 have bz:s1.l.length<=1099511627776:=by rw[ac];exact aS
 obtain⟨y,hy⟩:∃y,y=x.now.skip b:=⟨_,rfl⟩;rw[<- ac]at h1;rw[<- hy]at bX p;have cr:(a:Int)<16:=by omega
 have HN:=BX (λ(k:Nat) (z:Qc) (Q:l[k]?=AF z)=>T6 bT N Q);have T:=BX (A7 h hi E hb hT bC ay);have HS:=BX (A7 ac bW aX bz cE aT ap);have HP:=BX (A7 bX p bA cN aE aw hy);clear h hi E hb hT bC ay ac bW aX bz cE aT ap bX p bA cN aE aw hy cg cW cV aF aU aS aR cO bT aK N;go_enter Tryz.func111,Tryz.ntmps111;go_upto_region 3 with(go_at_call 160;refine h1.mono ?_;rintro e w1 ⟨rfl,bK,k1⟩);clear h1;go_cut [7] (λv7 wx=>∃b7,v7=.pointer (AF ⟨b7,0,AI⟩)/\MS base i w wx b7 s2 y);case first =>
  obtain⟨ns,ss,bR,_,_,a1,a2,a3,_⟩:=(T.out.1.byIn T.out.2.1 k1).agCell T.out.qc;obtain⟨no,nc,rfl,_,_⟩:=bR.form;have bL:=T.out.1.notIn T.out.2.1 q (.inl rfl);have bw:Zn w1 (·=i):=bK.footR;have O:=λ(X:AC) (hX:Hx base X i s1)=>Cm hX HS.out.qd (by rw[HS.out.qc];exact HS.out.rg);have bE:=λ(X:AC) (kX:Xy (·=i) w1 X)=>Oa (w:=X) (u:=.agg #[.int .u64 x.now.low,.int .u64 x.now.width,.slice no x.now.set.length nc]) (x:=x.now) ⟨_,rfl,bR.keep bw kX⟩ HP.out.qc HP.out.qd b (by have:=HS.out.rg;omega);have U:=BX (A4 O bE bK k1);clear O bE bK k1 bR;have kd:Xy (·=i) w1 w1.drew:=(Xy.refl _ _).drew;refine Pa (λw'=>Xy (·=i) w1 w') [0,1,2,3,4] [5,6] [8] 7 (by kernel_rfl) (by kernel_rfl) (λ_ _ _ _ _ h=>h) kd ?_;iterate 5(refine Qk (v:=?_) rfl rfl rfl ?_ ?_;rotate_left;focus(
   intro w' hS;have c1:=hS.cell a1 bL;have c2:=hS.cell a2 bL;have c3:=hS.cell a3 bL;go_simp
   try with_reducible rfl))
  refine Qj ?_;have bv:i<w1.heap.size:=(U.out.2.2.1.foot i rfl).2.1;refine⟨?_,?_⟩
  ·refine Qx rfl rfl (λK C=>?_);go_simp;have M:=(kd).alloc (.cells #[.int .u64 0,.int .u64 0,.slice AI 0 0] 92);have hA:(w1.drew.alloc (.cells #[.int .u64 0,.int .u64 0,.slice AI 0 0] 92)).heap[w1.heap.size]?=AF (.cells #[.int .u64 0,.int .u64 0,.slice AI 0 0] 92 (0,0)):=Qy w1.drew _;refine C _ _ M ?_;clear C K;refine Qx rfl rfl (λK C=>?_);go_simp;refine(U.out.1 _ (U.out.2.2.1.no (((Xy.refl No w1).drew).alloc (.cells #[.int .u64 0,.int .u64 0,.slice AI 0 0] 92)))).mono ?_;rw[HS.out.qc];rintro e w2⟨rfl,Z,k2⟩;have R:=(M).trans k2 (λ_ _ e=>e);refine C _ _ R ?_;clear C K;refine Qx rfl rfl (λK C=>?_);go_simp;refine(U.out.2.1 _ (R)).mono ?_;rintro e w3⟨u3,rfl,I,k3⟩;rw[<- HP.out.rg]at I;obtain⟨o3,c3,rfl,ab⟩:=I.form;have J:=(R).then k3;refine C _ _ J ?_;clear C K;have V:=k3.heap (k2.heap hA (λe=>by omega)) id;have q0:=Qq V 0;have q1:=Qq V 1;have q2:=Qq V 2;have fB:=Qg V;simp at q0 q1 q2;have p:=Z.no k3;have kk:=J;refine Qh (Qu rfl (Qm ?_));go_wp2_with fail;go_meet;obtain⟨hZ,kZ⟩:=Xf.ofV (x:=y) V ab;have A:=bv;refine⟨_,rfl,p.keepF kZ ?_ (λe=>by have:=p.foot _ rfl;omega),hZ,?_,(U.out.2.2.2.trans kk (λ_ _ e=>e)).trans kZ (λc N e=>by have e2:c=_:=e;have:=U.out.2.2.2.size;omega)⟩
   ·rintro c rfl;exact⟨BF p.at' (by omega),Qt V,λcs fr e=>by rw[V]at e;simp at e⟩
   ·have:=U.out.2.2.2.size;omega
  ·refine Qx rfl rfl (λK C=>?_);go_simp;refine(U.out.1 _ (U.out.2.2.1.no (Xy.refl No w1).drew)).mono ?_;rw[HS.out.qc];rintro e w2⟨rfl,Z,k2⟩;have R:=(kd).trans k2 (λ_ _ e=>e);refine C _ _ R ?_;clear C K;refine Qh ⟨?_,?_⟩
   ·refine Qx rfl rfl (λK C=>?_);go_simp;have M:=(R).alloc (.cells #[.int .u64 0,.int .u64 0,.slice AI 0 0] 92);have hA:(w2.alloc (.cells #[.int .u64 0,.int .u64 0,.slice AI 0 0] 92)).heap[w2.heap.size]?=AF (.cells #[.int .u64 0,.int .u64 0,.slice AI 0 0] 92 (0,0)):=Qy w2 _;refine C _ _ M ?_;clear C K;refine Qx rfl rfl (λK C=>?_);go_simp;refine(U.out.2.1 _ (M)).mono ?_;rintro e w3⟨u3,rfl,I,k3⟩;rw[<- HP.out.rg]at I;obtain⟨o3,c3,rfl,ab⟩:=I.form;have J:=(M).then k3;refine C _ _ J ?_;clear C K;have V:=k3.heap hA id;have q0:=Qq V 0;have q1:=Qq V 1;have q2:=Qq V 2;have fB:=Qg V;simp at q0 q1 q2;have p:=(Z.no ((Xy.refl No w2).alloc (.cells #[.int .u64 0,.int .u64 0,.slice AI 0 0] 92))).no k3;have kk:=J;refine Qh (Qu rfl (Qm ?_));go_wp2_with fail;go_meet;obtain⟨hZ,kZ⟩:=Xf.ofV (x:=y) V ab;have A:=R.size;refine⟨_,rfl,p.keepF kZ ?_ (λe=>by have:=p.foot _ rfl;omega),hZ,?_,(U.out.2.2.2.trans kk (λ_ _ e=>e)).trans kZ (λc N e=>by have e2:c=_:=e;have:=U.out.2.2.2.size;omega)⟩
    ·rintro c rfl;exact⟨BF p.at' (by omega),Qt V,λcs fr e=>by rw[V]at e;simp at e⟩
    ·have:=U.out.2.2.2.size;omega
   ·refine Qx rfl rfl (λK C=>?_);go_simp;refine(U.out.2.1 _ (R)).mono ?_;rintro e w3⟨u3,rfl,I,k3⟩;rw[<- HP.out.rg]at I;obtain⟨o3,c3,rfl,ab⟩:=I.form;have J:=(R).then k3;refine C _ _ J ?_;clear C K;refine Qh ?_;refine Qx rfl rfl (λK C=>?_);go_simp;have M:=(J).alloc (.cells #[.int .u64 0,.int .u64 0,.slice AI 0 0] 92);have hA:(w3.alloc (.cells #[.int .u64 0,.int .u64 0,.slice AI 0 0] 92)).heap[w3.heap.size]?=AF (.cells #[.int .u64 0,.int .u64 0,.slice AI 0 0] 92 (0,0)):=Qy w3 _;refine C _ _ M ?_;clear C K;have p:=Z.no k3;have A:=J.size;refine Qh (Qu rfl (Qm ?_));go_wp2_with fail;go_meet;have kY:=(Xy.refl No w3).alloc (.cells #[.int .u64 y.low,.int .u64 y.width,.slice o3 y.set.length c3] 92);refine⟨_,rfl,p.no kY,⟨o3,c3,Qy _ _,ab.no kY⟩,?_,(U.out.2.2.2.trans J (λ_ _ e=>e)).then kY⟩;have:=U.out.2.2.2.size;omega
 case rest =>
  obtain⟨b7,rfl,aj⟩:=hcut;have O:=Gm aj.inp (by rw[HS.out.2.1];exact HS.out.qf);rw[HS.out.2.1,HS.out.qe]at O;go_wp2_with fail;refine O.mono ?_;rintro e w2⟨rfl,Z,k2⟩;clear O;have cq:(l.length:Int)<=64:=by have:=HP.out.qf;omega
  have HA:=BX (A3 aj k2 Z);have aq:base<=w2.heap.size:=BF T.out.qd (BF aj.k.size k2.size);clear aj k2 Z;go_wp2_with fail;go_loopw [8,9] (λv8 v9 wr=>∃k,k<=l.length/\v9=.int .u64 ((l.length-k:Nat):Int)/\Xr base wr w2.heap.size v8 (l.take k)/\Hx base wr i ⟨Qb (l.drop k),0⟩/\Xy (·=i) w2 wr) (λ_ v9 _=>(C0 v9).toNat);case atStart=>exact⟨0,BW _,rfl,Xr.nil _ _ _,HA.out.2.2,Xy.refl _ _⟩
  case round =>
   obtain⟨k,hk,rfl,G,p,kr⟩:=hrel;obtain⟨vo,vc,rfl,_,_⟩:=G.form;obtain⟨d,hd⟩:∃d,d=l.length-k:=⟨_,rfl⟩;rw[<- hd];by_cases A:k<l.length
   ·have E:l[k]?=AF l[k]:=BY A;obtain⟨z,Q⟩:∃z,z=l[k]:=⟨_,rfl⟩;rw[<- Q]at E;have aB:=HP.out.qe z (FB E);have aL:l.drop k=z::l.drop (k+1):=by rw[OV A,Q]
    have aA:l.take (k+1)=l.take k++[z]:=by rw[BM A,Q]
    have bu:Qb (l.drop k)=z.bytes++Qb (l.drop (k+1)):=by rw[aL];simp[Qb]
    have cc:=KN (l:=l) k;have Y:=SN p (by show(Qb (l.drop k)).length<=_;have:=T.out.rg;omega);have bx:InS.item ⟨Qb (l.drop k),0⟩=(z,⟨Qb (l.drop (k+1)),0⟩):=by rw[bu];exact KT (by have:=aB.1;omega) aB.2 _
    rw[bx]at Y;have bt:=Vl p;have cY:(0:Int)<(d:Int):=by omega
    have cZ:IntKind.u64.wrap ((d:Int)-1)=((d-1:Nat):Int):=by rw[wraps_u64 _ (by omega) (by omega)];omega
    have bO:(l.take k).length<=64:=by have:=HP.out.qf;simp;omega
    obtain⟨tk,af⟩:∃tk,tk=l.take k:=⟨_,rfl⟩;rw[<- af]at G aA bO⊢;have f:=BX (A7 G p kr aA hd A bO);obtain⟨d1,bJ⟩:∃d1,d1=d-1:=⟨_,rfl⟩;rw[<- bJ]at cZ;have HD:=BX bJ;clear G p kr aA hd A bO bJ E Q aB aL bu cc bx hk af;go_wp2_with(go_at_call 156;refine bt.mono ?_;rintro e w3 ⟨rfl,I⟩;subst I);refine Y.mono ?_;rintro e w4⟨v4,rfl,ai,av,k4⟩;clear Y bt;obtain⟨o4,c4,rfl⟩:=ai.form;have aQ:=f.out.1.byIn f.out.2.1 k4;have bk:=ai.bytes (base:=base) (λ_=>BF T.out.qe (BF HA.out.1.k.size (BF HA.out.2.1.size f.out.2.2.1.size)));have M:=(Xy.refl No w4).alloc (.cells #[.int .u64 z.n,.int .i64 z.s.c,.slice o4 z.s.body.length c4] 111);have az:=Qy w4 (.cells #[.int .u64 z.n,.int .i64 z.s.c,.slice o4 z.s.body.length c4] 111);have br:w2.heap.size<=(w4.alloc (.cells #[.int .u64 z.n,.int .i64 z.s.c,.slice o4 z.s.body.length c4] 111)).heap.size:=by have h3:=f.out.2.2.1.size;have h4:=k4.size;have h5:=M.size;omega
    have H4:=BX (A6 (aQ.no M) (av.no M) (k4.then M) az (bk.no M) br);clear aQ ai av k4 bk M az br;go_wp2_with(at_builtin;refine Mn rfl _ _ rfl H4.out.1 aq rfl H4.out.qd rfl H4.out.qe (by have:=f.out.rg;omega) H4.out.rf ?_;intro cy cx w5 bM k5);go_roundw;case rel =>
     have cw:Zn (w4.alloc (.cells #[.int .u64 z.n,.int .i64 z.s.c,.slice o4 z.s.body.length c4] 111)) (λb=>(DN vo tk.length vc).ownBlock=AF b):=λb hb hr=>by
      obtain⟨_,bi,Q⟩:=H4.out.1.kind b hb;obtain⟨cs,fr,e⟩:=hr;rw[Q]at e;simp at e
     have cf:=H4.out.1.notIn H4.out.2.1;have cb:Uz base (w4.alloc (.cells #[.int .u64 z.n,.int .i64 z.s.c,.slice o4 z.s.body.length c4] 111)) (λb=>(DN vo tk.length vc).ownBlock=AF b):=λb hb=>by
      obtain⟨hq,bi,Q⟩:=H4.out.1.kind b hb;exact⟨BF aq hq,Qt Q,λcs fr e=>by rw[Q]at e;simp at e⟩
     refine⟨k+1,by have:=f.out.qf;omega,by congr 1;have:=f.out.qe;have:=HD.out;omega,?_,H4.out.2.1.keepF k5 cb (λe=>cf _ e rfl),?_⟩
     ·rw[f.out.qd];exact bM
     ·refine(f.out.2.2.1.trans H4.out.qc (λ_ _ e=>e)).trans k5 (λc N e=>?_);have:=(H4.out.1.kind c e).1;omega
    case measure=>have:=f.out.qe;have:=f.out.qf;have:=HD.out;simp[C0];omega
   ·have H:k=l.length:=by omega
    have cX:d=0:=by omega
    subst cX;have ct:¬(0:Int)<((0:Nat):Int):=by omega
    rw[H,DU (BE _)]at G;rw[H,List.drop_length]at p;have aM:=Ws p;have e0:InS.end' ⟨Qb [],0⟩=⟨[],0⟩:=ZI;rw[e0]at aM;have cJ:(l.take k).length=l.length:=by rw[H,DU (BE _)]
    rw[cJ];have f:=BX (A3 G p kr);clear G p kr hd A H hk cJ;go_wp2_with fail;refine aM.mono ?_;rintro e w3⟨rfl,au,k3⟩;clear aM;have aP:=f.out.1.byIn f.out.2.1 k3;have ar:=HA.out.1.box.byIn HA.out.1.inp HA.out.2.1;have D:=(ar.byIn HA.out.2.2 f.out.2.2).byIn f.out.2.1 k3;have cR:Xy (·=i) w w3:=((HA.out.1.k.trans HA.out.2.1 (λ_ _ e=>e)).trans f.out.2.2 (λ_ _ e=>e)).trans k3 (λ_ _ e=>e);have H3:=BX (A5 aP D cR au HA.out.1.new);clear aP ar D cR au k3;go_wp2_with fail;go_loopw [50] (λbd wr=>∃k,bd=.int .i64 (k:Nat)/\k<=l.length/\Xf wr b7 (y.putAll (l.take k))/\Xy (·=b7) w3 wr) (λbd _=>l.length-(C0 bd).toNat);case atStart=>exact⟨0,rfl,BW _,H3.out.2.1,Xy.refl _ _⟩
    case round =>
     obtain⟨k,rfl,hk,D,kr⟩:=hrel;have aD:=H3.out.1.keep (H3.out.2.1.foot (BF T.out.qd H3.out.re)) kr (H3.out.1.notBox H3.out.2.1);by_cases A:k<l.length
     ·have E:l[k]?=AF l[k]:=BY A;generalize l[k]=z at E;have aB:=HP.out.qe z (FB E);obtain⟨t,ht⟩:∃t,t=y.putAll (l.take k):=⟨_,rfl⟩;have W:t.Fine width:=by rw[ht];exact HP.out.1.putAll (λx E=>(HP.out.qe x (List.mem_of_mem_take E)).1)
      have af:t.takes z.n=true:=by rw[ht];exact Bp HP.out.2.1 E
      have cI:y.putAll (l.take (k+1))=t.put z.n:=by rw[ht];exact Ep y E
      rw[<- ht]at D;obtain⟨gi,ui,Y,aG,e0,e1,e2⟩:=aD.cell E;obtain⟨uo,uc,rfl⟩:=aG.form;obtain⟨bo,bc,b0,b1,b2,fb,hv⟩:=D.cells;have bN:(k:Int)<(l.length:Int):=by omega
      have cp:¬(2305843009213693952:Int)<=(z.n:Int):=by have:=aB.1;omega
      have M:=(Xy.refl No wr).alloc (.cells #[.int .u64 z.n,.int .i64 z.s.c,.slice uo z.s.body.length uc] 111);have cS:=λo=>((Xy.refl No wr).alloc o).cell b0 id;have cT:=λo=>((Xy.refl No wr).alloc o).cell b1 id;have cU:=λo=>((Xy.refl No wr).alloc o).cell b2 id;have bF:=Dw (hv.no M) W.ok.pre z.n;rw[af]at bF;have bB:=λ(w':AC) (k:Xy No (wr.alloc (.cells #[.int .u64 z.n,.int .i64 z.s.c,.slice uo z.s.body.length uc] 111)) w')=>ZN ((hv.no M).no k) W.ok z.n (by have:=aB.1;omega);have bp:=D.keep (Zn.no _) M id;have aV:=Qy wr (.cells #[.int .u64 z.n,.int .i64 z.s.c,.slice uo z.s.body.length uc] 111);subst Y;have f:=BX (A7 kr M bp bB aV cI A);clear aB W af cI D aD aG hv M bB bp aV A ht E hk kr;go_wp2_with(first
       | (go_at_call 66;refine(f.out.qd w6 k6).mono ?_;rintro e w7 ⟨u7,rfl,cj,k7⟩;obtain⟨o7,c7,rfl,ch⟩:=cj.form;have bm:=(f.out.2.2.1.keep (Zn.no _) k6 id).keep (Zn.no _) k7 id;have r0:=k7.cell p0 id;have r1:=k7.cell p1 id;have r2:=k7.cell p2 id;obtain⟨_,_,_,_,_,fp,_⟩:=bm.cells)
       | (go_at_call 65;refine bF.mono ?_;rintro e w6 ⟨rfl,k6⟩;have p0:=k6.cell (cS _) id;have p1:=k6.cell (cT _) id;have p2:=k6.cell (cU _) id;have ce:=k6.heap f.out.qe id;have n0:=Qq ce 0;simp at n0))
      obtain⟨bY,cl⟩:=bm.store ch;refine⟨⟨k+1,by congr 1,by have:=f.out.rg;omega,?_,(((f.out.1.then f.out.2.1).then k6).then k7).trans cl (λ_ _ e=>e)⟩,by have:=f.out.rg;simp[C0];omega⟩;rw[f.out.qf];exact bY
     ·have H:k=l.length:=by omega
      have bN:¬(k:Int)<(l.length:Int):=by omega
      rename AC=>w8
      rw[H,DU (BE _)]at D;have cA:=T.out.1.byIn T.out.2.1 H3.out.qc;have bP:∀c,Kw q m lv c->¬c=b7:=λc N e=>by have:=T.out.1.lt c N;have:=H3.out.re;omega
      have cB:=cA.keep (H3.out.2.1.foot (BF T.out.qd H3.out.re)) H3.out.2.1.footR kr bP;have cM:w.heap.size<=w8.heap.size:=BF H3.out.2.2.1.size kr.size;have H8:=BX (A6 aD D cB kr cM bP);clear aD D cB cA kr cM bP hk A H;go_wp2_with fail;go_loopw [71] (λbe wr=>∃k aC,be=.int .i64 (k:Nat)/\k<=l.length/\Zv base wr q g m aC (L.part a l k)/\Xy (Kw q m lv) w8 wr/\(∀c,aC.ownBlock=AF c->lv.ownBlock=AF c\/w8.heap.size<=c)) (λbe _=>l.length-(C0 be).toNat);case atStart=>exact⟨0,lv,rfl,BW _,by unfold Xs.part;simpa using H8.out.qc,Xy.refl _ _,λc e=>.inl e⟩
      case round =>
       obtain⟨k,aC,rfl,hk,B,kq,aZ⟩:=hrel;have aO:=H8.out.1.keep H8.out.2.2.1.foot kq (λc N hf=>by
        obtain⟨_,bi,Q⟩:=H8.out.1.kind c N;obtain⟨_,h3⟩:=H8.out.2.2.1.kind hf;rcases h3 with⟨cs,t,aH,ht⟩|⟨es,clock,aH⟩
        ·rw[Q]at aH;simp at aH;obtain⟨_,rfl⟩:=aH;rcases ht with ht|ht<;>simp at ht
        ·rw[Q]at aH;simp at aH)
       by_cases A:k<l.length
       ·have E:l[k]?=AF l[k]:=BY A;generalize l[k]=z at E;have bS:=HN.out k z E;have bU:=RB (a:=a) (L:=L) E;obtain⟨gi,ui,Y,aG,e0,e1,e2⟩:=aO.cell E;obtain⟨uo,uc,rfl⟩:=aG.form;subst Y;have bN:(k:Int)<(l.length:Int):=by omega
        obtain⟨aI,_,bh⟩:=B.endCells;obtain⟨lo,lc,cd,ax,cC⟩:=B.recs.form;subst cd;have bV:(L.part a l k).recs.length<=1073741824+64:=by have h1:=T.out.qf;have h2:=HP.out.qf;show(L.recs++_).length<=_;rw[BO,D6,E9];omega
        obtain⟨P,hP⟩:∃P,P=L.part a l k:=⟨_,rfl⟩;rw[<- hP]at B bS bU bV aI ax aZ;have co:(P.recs.length:Int)<=1073741888:=by omega
        have cv:=B.incCell.2.2;obtain⟨W2,aJ⟩:∃W2,W2=(wr.alloc (.cells #[.int .u64 z.n,.int .i64 z.s.c,.slice uo z.s.body.length uc] 111)).alloc (.cells #[.int .i64 a,.int .u64 z.n] 58):=⟨_,rfl⟩;have k2:Xy No wr W2:=by rw[aJ];exact((Xy.refl _ _).alloc _).alloc _
        have cP:W2.heap[wr.heap.size]?=AF (.cells #[.int .u64 z.n,.int .i64 z.s.c,.slice uo z.s.body.length uc] 111 (0,0)):=by rw[aJ];exact((Xy.refl No _).alloc _).heap (Qy _ _) id
        have al:W2.heap[wr.heap.size+1]?=AF (.cells #[.int .i64 a,.int .u64 z.n] 58 (0,0)):=by rw[aJ];have:=Qy (wr.alloc (.cells #[.int .u64 z.n,.int .i64 z.s.c,.slice uo z.s.body.length uc] 111)) (.cells #[.int .i64 a,.int .u64 z.n] 58);rw[World.size_alloc]at this;exact this
        obtain⟨wm,bD,bs,km⟩:=((B.no (k2.drew)).by').push ⟨a,z.n,z.s⟩ bS;have an:=k2.cell aI id;have ao:=k2.cell bh id;have i0:=Qq al 0;have i1:=Qq al 1;simp at i0 i1;have f:=BX (A12 B kq aZ bU A k2 cP al bs km aG bV);clear B kq aZ bU A k2 cP al bs km aG bV aO bS hP hk E ax cC;go_wp2_with fail;rw[<- aJ];clear aJ;have kd:Xy No W2 W2.drew:=(Xy.refl _ _).drew;refine Ql (λw'=>Xy No W2 w') [0,1,2,3,4,5,6,7,8,9] [] [10] (by kernel_rfl) (by kernel_rfl) (λ_ _ _ _ _ h=>h) kd ?_;iterate 10(refine Qk (v:=?_) rfl rfl rfl ?_ ?_;rotate_left;focus(
         intro w' hS;have bj:=hS.cell an id;have cn:=hS.cell ao id;have j0:=hS.cell i0 id;have j1:=hS.cell i1 id;go_simp
         try with_reducible rfl))
        refine Qj (Qh (Qu rfl (Qm ?_)));go_wp2_with fail;have ci:=bD;clear bD an ao i0 i1;obtain⟨bG,bf,bg⟩:=f.out.1.apart;have cD:=f.out.1.lt m (.inr (.inl rfl));have aY:=λc (N:(DN lo P.recs.length lc).ownBlock=AF c)=>f.out.1.lt c (.inr (.inr N));have km:=f.out.qj;have S:Xy No wr W2.drew:=f.out.2.2.2.2.2.1.drew;have ah:=km.cell (S.cell aI id) (show ¬q=m from bG);have bb:=km.heap (kd.heap f.out.qg id) (show ¬wr.heap.size=m by omega);have bZ:=km.heap (kd.heap f.out.qh id) (show ¬wr.heap.size+1=m by omega);have t1:=Qq bb 1;have t2:=Qq bb 2;have i0:=Qq bZ 0;have i1:=Qq bZ 1;simp at t1 t2 i0 i1;have bH:Uz base W2.drew (·=m):=by rintro c rfl;obtain⟨h1,h2⟩:=(f.out.1.no S).kind (b:=c) (.inr (.inl rfl));obtain⟨es,clock,Q,_⟩:=(f.out.1.no S).by';exact⟨h1,Qt Q,λcs fr e=>by rw[Q]at e;simp at e⟩
        have bl:=((f.out.1.no S).recs).keep bH km (λc N e=>bg (by rw[N,show c=m from e]));have bq:=((f.out.qk).no S).keep bH km;have bQ:¬(DN lo P.recs.length lc).ownBlock=AF q:=bf;have aF:¬(DN lo P.recs.length lc).ownBlock=AF wr.heap.size:=λe=>by have:=aY _ e;omega
        have aU:¬(DN lo P.recs.length lc).ownBlock=AF (wr.heap.size+1):=λe=>by have:=aY _ e;omega
        have ae:W2.heap.size<=wm.heap.size:=km.size;have ad:=f.out.2.2.2.2.2.1.size;have ck:Xy (λc=>(DN lo P.recs.length lc).ownBlock=AF c) wm wm.drew:=(Xy.refl _ _).drew;refine Ql (λw'=>Xy (λc=>(DN lo P.recs.length lc).ownBlock=AF c) wm w') [0,1,2,3,4,5,6,7,8] [9,10] [11,12,13] (by kernel_rfl) (by kernel_rfl) (λ_ _ _ _ _ h=>h) ck ?_;iterate 9(refine Qk (v:=?_) rfl rfl rfl ?_ ?_;rotate_left;focus(
         intro w' hS;have bj:=hS.cell ah bQ;have g1:=hS.cell t1 aF;have g2:=hS.cell t2 aF;have j0:=hS.cell i0 aU;have j1:=hS.cell i1 aU;go_simp
         try with_reducible rfl))
        refine Qj (Qx rfl rfl (λK C=>?_));go_simp;have kB:=(Xy.refl No wm).drew.alloc (.cells #[.int .i64 a,.int .u64 z.n,.int .i64 z.s.c,.slice uo z.s.body.length uc] 63);have aW:=Qy wm.drew (.cells #[.int .i64 a,.int .u64 z.n,.int .i64 z.s.c,.slice uo z.s.body.length uc] 63);refine C _ _ kB.no ?_;clear C K;refine Qx rfl rfl (λK C=>?_);refine Iz (y:=⟨a,z.n,z.s⟩) _ _ rfl (bl.keep (Uz.no _ _) kB (λ_ _ e=>e)) rfl aW rfl (bq.no kB) (by have:=f.out.rl;omega) (BF T.out.qd (BF H8.out.qe (BF f.out.2.1.size (BF ad (BF ae kB.size))))) ?_;intro vo vc wa cG ka cF;have am:Xy (λc=>(DN lo P.recs.length lc).ownBlock=AF c) wm wa:=(kB.no (F:=λc=>(DN lo P.recs.length lc).ownBlock=AF c)).trans ka (λ_ _ e=>e);refine C _ _ am ?_;clear C K;have aN:=(f.out.1.no S).grow f.out.qi km kB cG ka;have cm:=am.cell ah bQ;have cu:∀j,wa.frozen? ⟨q,j,AI⟩=false:=by obtain⟨ags,Q,_⟩:=(f.out.1.no S).blk;exact Qg (am.heap (km.heap Q (show ¬q=m from bG)) bQ)
        have HG:=BX (A6 aN S cF ae ad kB.size);clear aN S cF cG ka am kB aW bl bq ah bb bZ t1 t2 i0 i1 bH aY bG bf bg cD km ae ad;refine Qh (Qu rfl (Qu rfl (Qu rfl (Qm ?_))));go_wp2_with fail;refine⟨⟨k+1,.slice vo (P.recs.length+1) vc,by congr 1,by have:=f.out.qe;omega,by rw[f.out.qd];exact HG.out.1.1,?_,?_⟩,by have:=f.out.qe;simp[C0];omega⟩
        ·refine(f.out.2.1.then HG.out.2.1).trans HG.out.1.2 (λc N e=>?_);rcases e with e|e|e
         ·exact .inl e
         ·exact .inr (.inl e)
         ·rcases f.out.qc c e with e|e
          ·exact .inr (.inr e)
          ·omega
        ·intro c N;rcases HG.out.qc c N with e|e
         ·exact f.out.qc c e
         ·have h1:=f.out.2.1.size;have h2:=HG.out.qd;have h3:=HG.out.qe;have h4:=HG.out.rf;exact .inr (BF h1 (BF h3 (BF h2 (BF h4 e))))
       ·have H:k=l.length:=by omega
        have bN:¬(k:Int)<(l.length:Int):=by omega
        have D:=H8.out.2.1.keep H8.out.2.2.1.footR kq (λe=>H8.out.rf _ e rfl);have bI:(L.part a l k).ag[a]?=AF x:=T.out.qc;obtain⟨ns,ss,_,_,_,a1,a2,a3,_⟩:=B.agCell bI;obtain⟨bo,bc,b0,b1,b2,_,v,cK,cL⟩:=D.cells;simp at cK;subst cK;have fq:=B.incCell.2.2;obtain⟨cH,cQ⟩:=B.setNow bI (y.putAll l) cL;have HZ:=BX (A4 cH cQ kq aZ);have HK:=BX H;obtain⟨t,ht⟩:∃t,t=y.putAll l:=⟨_,rfl⟩;rw[<- ht]at HZ b0 b1 b2;have HT:=BX ht;clear cH cQ kq aZ D B aO cL hk A ht H bI;go_wp2_with fail;go_ret;have bY:L.step (.put a b l)={L.part a l k with ag:=(L.part a l k).ag.modify a (λg=>{g with now:=t})}:=by have E:=T.out.qc;show({L with ag:=L.ag.modify a (λg=>{g with now:=(g.now.skip b).putAll l}),recs:=L.recs++l.map (λx=>⟨a,x.n,x.s⟩)}:Xs)={L with ag:=L.ag.modify a (λg=>{g with now:=t}),recs:=L.recs++(l.take k).map (λx=>⟨a,x.n,x.s⟩)};rw[Gk _ E,Gk _ E,HK.out,DU (BE _),HT.out,HP.out.rg]
        refine⟨rfl,aC,by rw[bY];exact HZ.out.1,?_,?_⟩
        ·refine((((H3.out.2.2.1.mono (λc _ e=>.inr e)).trans H8.out.qd (λc N e=>?_)).trans HZ.out.qc (λc _ e=>.inl e)).trans HZ.out.2.1 (λc _ e=>.inl (.inl e)));have e:c=b7:=e;have:=H3.out.re;omega
        ·intro c N;rcases HZ.out.2.2.2 c N with e|e
         ·exact .inl e
         ·exact .inr (BF H8.out.qe e)
def YH [bn:Ib](base:Nat)(w:AC)(q g m:Nat)(lv:AM)(L:Xs)(f:AC):Prop :=
 ∃d,Zv base f q g m d L/\Xy (Kw q m lv) w f/\(∀c,d.ownBlock=AF c->lv.ownBlock=AF c\/w.heap.size<=c)
theorem Au[bn:Ib](h:Zv base w q g m lv L)(U:L.Ok width)(hp:Qv base w pv r.bytes)(I:L.can r)(J:r.bytes.length<=1073741824)(K:L.recs.length<=1073741824)(X:base<=w.heap.size)(W:ban.top<=w.heap.size) :
  DJ Tryz.prog 57 #[.pointer (AF ⟨q,0,AI⟩),pv] w λe Q=>e=.returned (.bool true)/\YH base w q g m lv (L.step r) Q:=by
 obtain⟨po,pc,rfl⟩:=hp.form;have A:=T5 hp X W (by omega);obtain⟨n,hn⟩:∃n,n=r.bytes.length:=⟨_,rfl⟩;rw[<- hn]at A⊢;have H:=BX (A7 h U I J K X W);clear h U hp J K X W hn;have N:∀{R M Q:AC} {i:Nat} {E:AM} {L':Xs},Xy No w R->w.heap.size<=i->Xy (·=i) R M->Zv base Q q g m E L'->Xy (λc=>Kw q m lv c\/c=i) M Q->(∀c,E.ownBlock=AF c->lv.ownBlock=AF c\/M.heap.size<=c)->YH base w q g m lv L' Q:=by
  intro R M Q i E L' D hi B hl P Z;refine⟨E,hl,((D.no (F:=Kw q m lv)).trans B (λc I e=>?_)).trans P (λc I e=>?_),λc Y=>?_⟩
  ·have e:c=i:=e;omega
  ·rcases e with e|e
   ·exact e
   ·omega
  ·rcases Z c Y with e|e
   ·exact .inl e
   ·exact .inr (BF (BF D.size B.size) e)
 cases r with
 | inc z =>
  have G:=BX I;clear I;go_enter Tryz.func57,Tryz.ntmps57;go_wp2_with fail;refine A.mono ?_;rintro e R⟨i,rfl,o,f,D⟩;have d:=Cc f;rw[show(⟨(Ji.inc z).bytes,0⟩:InS).byte=(1,⟨numB z,0⟩)from rfl]at d;have p:=BX (A3 o f D);clear o f D A;go_wp2_with fail;refine d.mono ?_;rintro e M⟨rfl,j,B⟩;have k:=(H.out.1.no p.out.2.2).byIn p.out.2.1 B;have T:=Ih k j G.out.2 G.out.1;have S:=BX B;clear d j B k;go_wp2_with fail;refine T.mono ?_;rintro e w3⟨rfl,C,P⟩;go_wp2_with fail;go_ret;exact⟨rfl,N p.out.2.2 p.out.1 S.out C (P.mono (λc _ e=>by rcases e with e|e;exact .inl (.inl e);exact .inr e)) (λc e=>.inl e)⟩
 | floor a z =>
  have G:=BX I;clear I;go_enter Tryz.func57,Tryz.ntmps57;go_wp2_with fail;refine A.mono ?_;rintro e R⟨i,rfl,o,f,D⟩;have d:=Cc f;rw[show(⟨(Ji.floor a z).bytes,0⟩:InS).byte=(2,⟨numB a++numB z,0⟩)from rfl]at d;have p:=BX (A3 o f D);clear o f D A;go_wp2_with fail;refine d.mono ?_;rintro e M⟨rfl,j,B⟩;have k:=(H.out.1.no p.out.2.2).byIn p.out.2.1 B;obtain⟨x,hx,_,_,V⟩:=H.out.2.1.at G.out.1;have T:=Bj k j hx G.out.1 G.out.2.2 (by have:=G.out.2.1;rw[V]at this;exact this);have S:=BX B;clear d j B k V hx;go_wp2_with fail;refine T.mono ?_;rintro e w3⟨rfl,C,P⟩;go_wp2_with fail;go_ret;exact⟨rfl,N p.out.2.2 p.out.1 S.out C (P.mono (λc _ e=>by rcases e with e|e;exact .inl (.inl e);exact .inr e)) (λc e=>.inl e)⟩
 | put a b l =>
  have G:=BX I;clear I;go_enter Tryz.func57,Tryz.ntmps57;go_wp2_with fail;refine A.mono ?_;rintro e R⟨i,rfl,o,f,D⟩;have d:=Cc f;rw[show(⟨(Ji.put a b l).bytes,0⟩:InS).byte=(3,⟨numB a++(numB b++(numB l.length++Qb l)),0⟩)from rfl]at d;have p:=BX (A3 o f D);clear o f D A;go_wp2_with fail;refine d.mono ?_;rintro e M⟨rfl,j,B⟩;have k:=(H.out.1.no p.out.2.2).byIn p.out.2.1 B;have O:w.heap.size<=M.heap.size:=BF p.out.2.2.size B.size;have T:=Ir k H.out.2.1 j G.out (by have:=H.out.qd;simp[Ji.bytes]at this;omega) H.out.qe (BF H.out.qf O) (BF H.out.rg O);have S:=BX B;clear d j B k O;go_wp2_with fail;refine T.mono ?_;rintro e w3⟨rfl,E,C,P,Z⟩;go_wp2_with fail;go_ret;exact⟨rfl,N p.out.2.2 p.out.1 S.out C P Z⟩
theorem Vj(q a:Nat)(i:a<16):DJ Tryz.prog 61 #[.pointer (AF ⟨q,0,AI⟩),.int .i64 a] w λe d=>e=.returned (.pointer (AF ⟨q,2+a*7,AI⟩))/\d=w:=by
 have f:¬(a:Int)<0:=by omega
 have g:¬16<=(a:Int):=by omega
 have h:(a:Int)<16:=by omega
 go_enter Tryz.func61,Tryz.ntmps61;go_wp2_with fail;go_ret;exact⟨rfl,rfl⟩
theorem Cn(q:Nat)(a:Int)(d:a<0\/16<=a):DJ Tryz.prog 61 #[.pointer (AF ⟨q,0,AI⟩),.int .i64 a] w λe f=>e=.returned (.pointer AI)/\f=w:=by
 by_cases g:a<0
 ·clear d;go_enter Tryz.func61,Tryz.ntmps61;go_wp2_with fail;go_ret;exact⟨rfl,rfl⟩
 ·have h:16<=a:=by omega
  clear d;go_enter Tryz.func61,Tryz.ntmps61;go_wp2_with fail;go_ret;exact⟨rfl,rfl⟩
theorem Sf[bn:Ib](h:Zv base w q g m lv L):DJ Tryz.prog 15 #[.pointer (AF ⟨q,0,AI⟩)] w λe d=>e=.returned (.int .u64 L.inc)/\d=w:=by obtain⟨f,_,_⟩:=h.incCell;clear h;go_enter Tryz.func15,Tryz.ntmps15;go_wp2_with fail;go_ret;exact⟨rfl,rfl⟩
theorem Tp[bn:Ib](h:Zv base w q g m lv L):DJ Tryz.prog 16 #[.pointer (AF ⟨q,0,AI⟩)] w λe d=>e=.returned (.pointer (AF ⟨g,0,AI⟩))/\d=w:=by obtain⟨_,f,_⟩:=h.incCell;clear h;go_enter Tryz.func16,Tryz.ntmps16;go_wp2_with fail;go_ret;exact⟨rfl,rfl⟩
theorem H0[bn:Ib]{q g m a:Nat}(h:Zv base w q g m lv L)(d:a<16)(f:L.ag[a]?=AF x):DJ Tryz.prog 39 #[.pointer (AF ⟨q,0,AI⟩),.int .i64 a] w λe i=>e=.returned (.int .u64 x.floor)/\i=w:=by obtain⟨_,_,_,_,k,_⟩:=h.agCell f;have j:=Vj (w:=w) q a d;clear h f d;go_enter Tryz.func39,Tryz.ntmps39;go_wp2_with(go_at_call 61;refine j.mono ?_;rintro e i ⟨rfl,rfl⟩);go_ret;exact⟨rfl,rfl⟩
theorem Y8(h:DJ Tryz.prog 61 #[v,.int .i64 a] w λe d=>e=.returned (.pointer AI)/\d=w):DJ Tryz.prog 39 #[v,.int .i64 a] w λe d=>e=.returned (.int .u64 0)/\d=w:=by go_enter Tryz.func39,Tryz.ntmps39;go_wp2_with(go_at_call 61;refine h.mono ?_;rintro e d ⟨rfl,rfl⟩);go_ret;exact⟨rfl,rfl⟩
theorem KU[bn:Ib]{q g m a:Nat}(h:Zv base w q g m lv L)(n:a<16)(p:L.ag[a]?=AF x):DJ Tryz.prog 37 #[.pointer (AF ⟨q,0,AI⟩),.int .i64 a] w λe j=>∃u,e=.returned u/\Nf j u x.now/\Xy No w j:=by obtain⟨ns,_,i,_,_,z,B,D,_⟩:=h.agCell p;obtain⟨ao,cap,rfl,_,_⟩:=i.form;have d:=λo=>(Xy.refl No w).alloc o;have A:=λo=>(d o).cell z id;have C:=λo=>(d o).cell B id;have E:=λo=>(d o).cell D id;have F:=λ(G:AC)=>Vj (w:=G) q a n;have f:=Qy w (.cells #[.int .u64 x.now.low,.int .u64 x.now.width,.slice ao x.now.set.length cap] 92);have H:=Qq f 0;have I:=Qq f 1;have J:=Qq f 2;simp at H I J;have k:=BX (A2 (i.no (d (.cells #[.int .u64 x.now.low,.int .u64 x.now.width,.slice ao x.now.set.length cap] 92))) (d (.cells #[.int .u64 x.now.low,.int .u64 x.now.width,.slice ao x.now.set.length cap] 92)));clear h p n i f d;go_enter Tryz.func37,Tryz.ntmps37;go_wp2_with(go_at_call 61;refine(F _).mono ?_;rintro e j ⟨rfl,rfl⟩);refine FC (v:=.agg #[.int .u64 x.now.low,.int .u64 x.now.width,.slice ao x.now.set.length cap]) (by simp[results,Tryz.results37,go_sem]) rfl ?_;exact⟨_,rfl,⟨_,rfl,k.out.1⟩,k.out.2⟩
theorem TG[bn:Ib]{q g m a:Nat}(h:Zv base w q g m lv L)(n:a<16)(p:L.ag[a]?=AF x):DJ Tryz.prog 77 #[.pointer (AF ⟨q,0,AI⟩),.int .i64 a] w λe j=>∃u,e=.returned u/\Nf j u x.safe/\Xy No w j:=by obtain⟨_,ss,_,i,_,_,_,_,z,B,D⟩:=h.agCell p;obtain⟨ao,cap,rfl,_,_⟩:=i.form;have d:=λo=>(Xy.refl No w).alloc o;have A:=λo=>(d o).cell z id;have C:=λo=>(d o).cell B id;have E:=λo=>(d o).cell D id;have F:=λ(G:AC)=>Vj (w:=G) q a n;have f:=Qy w (.cells #[.int .u64 x.safe.low,.int .u64 x.safe.width,.slice ao x.safe.set.length cap] 92);have H:=Qq f 0;have I:=Qq f 1;have J:=Qq f 2;simp at H I J;have k:=BX (A2 (i.no (d (.cells #[.int .u64 x.safe.low,.int .u64 x.safe.width,.slice ao x.safe.set.length cap] 92))) (d (.cells #[.int .u64 x.safe.low,.int .u64 x.safe.width,.slice ao x.safe.set.length cap] 92)));clear h p n i f d;go_enter Tryz.func77,Tryz.ntmps77;go_wp2_with(go_at_call 61;refine(F _).mono ?_;rintro e j ⟨rfl,rfl⟩);refine FC (v:=.agg #[.int .u64 x.safe.low,.int .u64 x.safe.width,.slice ao x.safe.set.length cap]) (by simp[results,Tryz.results77,go_sem]) rfl ?_;exact⟨_,rfl,⟨_,rfl,k.out.1⟩,k.out.2⟩
theorem Z7(h:∀w,DJ Tryz.prog 61 #[v,.int .i64 a] w λe d=>e=.returned (.pointer AI)/\d=w):DJ Tryz.prog 37 #[v,.int .i64 a] w λe d=>∃u,e=.returned u/\Nf d u ⟨0,0,[]⟩/\Xy No w d:=by have f:=Qy w (.cells #[.int .u64 0,.int .u64 0,.slice AI 0 0] 92);have g:Xy No w (w.alloc (.cells #[.int .u64 0,.int .u64 0,.slice AI 0 0] 92)):=(Xy.refl _ _).alloc _;have j:=Qq f 0;have k:=Qq f 1;have m:=Qq f 2;simp at j k m;have i:=BX g;clear f g;go_enter Tryz.func37,Tryz.ntmps37;go_wp2_with(go_at_call 61;refine(h _).mono ?_;rintro e d ⟨rfl,rfl⟩);refine FC (v:=.agg #[.int .u64 0,.int .u64 0,.slice AI 0 0]) (by simp[results,Tryz.results37,go_sem]) rfl ?_;exact⟨_,rfl,⟨_,rfl,Zy.nil _⟩,i.out⟩
def Xg (w:AC)(B:Nat)(v:AM)(l:List Hk):Prop :=
 ∃xs:List (Hk×AM),xs.map (·.1)=l/\(∀x∈xs,Kr w B x.2 x.1.s.body)/\w.ownsRow B 63 4 v l.length (Xu xs)
theorem Xg.nil(w:AC)(B:Nat):Xg w B (.slice AI 0 0) []:=⟨[],rfl,λx h=>by simp at h,World.ownsRow_nil _ _ _ _⟩
theorem Xg.form(h:Xg w B v l):∃ao cap,v=.slice ao l.length cap/\l.length<=cap/\cap<=maxLen:=by obtain⟨xs,_,_,d⟩:=h;exact Kj d
theorem Xg.keep(h:Xg w B v l)(k:Xy F w p)(hF:∀b,B<=b->F b->∀cs fr,w.heap[b]?≠AF (.cells cs 63 fr)/\w.heap[b]?≠AF (.cells cs 5 fr)):Xg p B v l:=by
 obtain⟨xs,q,m,n⟩:=h;refine⟨xs,q,λx o=>(m x o).keep k (λb f g=>?_),Yu n k (λb f g=>?_)⟩
 ·obtain⟨j,d,i⟩:=Qa (m x o) b f;exact(hF b j g _ _).2 i
 ·obtain⟨j,d,i⟩:=Qa n b f;exact(hF b j g _ _).1 i
theorem Xg.no(h:Xg w B v l)(k:Xy No w d):Xg d B v l:=h.keep k (λ_ _ e=>e.elim)
theorem Ld(Y:o.guard=AI)(s x:Operand)(ho:o.op=.call {callee:=.builtin .append,args:=#[s,x],argTypes:=#[31,31]})(h:Xg w B v l)(hs:a.eval s=v)(U:w.heap[D]?=AF (.cells #[.int .i64 y.who,.int .u64 y.n,.int .i64 y.s.c,.slice j y.s.body.length i] 63 (0,0)))(hx:a.eval x=.slice (AF ⟨D,0,AI⟩) 1 1)(E:Kr w B (.slice j y.s.body.length i) y.s.body)(hl:l.length<=1099511627776)(G:B<=w.heap.size)(V:∀P O C,Xg C B (.slice P (l.length+1) O) (l++[y])->Xy (λb=>v.ownBlock=AF b) w C->wpList Tryz.prog A Q rest (a.put o.dst (.slice P (l.length+1) O)) C):wpList Tryz.prog A Q (o::rest) a w:=by
 obtain⟨xs,S,T,N⟩:=h;obtain⟨i0,I,J,L,d⟩:=info_parts JX;refine wpList_plain Y λK F=>?_;refine wp_append_lies w s x 31 ho B 63 i0 _ 4 48 Tryz.underlying31 I J L d rfl (by omega) v l.length (Xu xs) hs N
  ⟨D,0,AI⟩ 1 1 (Jd y (.slice j y.s.body.length i)) hx rfl (World.news_of_block (cs:=#[.int .i64 y.who,.int .u64 y.n,.int .i64 y.s.c,.slice j y.s.body.length i]) (t:=63) (fr:=(0,0)) U) (by simp[Jd,Value.oneCell']) (by omega) (by unfold maxLen;omega) (by omega) G w.heap.size rfl ?_
 intro g cap C q H W Z;have k:=Jr H;have p:∀{u:AM} {m:List UInt8},Kr w B u m->Kr C B u m:=λ{u m} E=>E.keep k (λb G X=>by
  obtain⟨_,R,f⟩:=Qa E b G;obtain⟨_,M,d⟩:=Qa N b X
  rw[f]at d;simp at d)
 refine F _ _ (V _ _ _ ⟨xs++[(y,.slice j y.s.body.length i)],by simp[S],λz f=>?_,?_⟩ k)
 ·rcases List.mem_append.1 f with f|f
  ·exact p (T z f)
  ·rw[List.mem_singleton.1 f];exact p E
 ·rw[Ci,BO];have e:Xu [(y,DN j y.s.body.length i)]=Jd y (.slice j y.s.body.length i):=by simp[Xu]
  rw[e];simpa using q
theorem Yi.cell[bn:Ib](h:Yi base w (.slice ao n cap) l)(hi:l[i]?=AF x) :
  ∃g u,ao=AF ⟨g,0,AI⟩/\Qv base w u x.s.body/\w.cell? ⟨g,i*4,AI⟩=AF (.int .i64 x.who)/\w.cell? ⟨g,i*4+1,AI⟩=AF (.int .u64 x.n)/\w.cell? ⟨g,i*4+2,AI⟩=AF (.int .i64 x.s.c)/\w.cell? ⟨g,i*4+3,AI⟩=AF u:=by
 obtain⟨z,k,o,_⟩:=h.form;simp only[DB]at o;obtain⟨rfl,rfl,rfl⟩:=o;obtain⟨xs,m,B,C⟩:=h;have d:∃u,xs[i]?=AF (x,u):=by
  rw[<- m,List.getElem?_map]at hi;cases q:xs[i]? with
  | none=>rw[q]at hi;simp at hi
  | some y=>rw[q]at hi;simp at hi;exact⟨y.2,by rw[<- hi]⟩
 obtain⟨u,p⟩:=d;have E:(Xu xs).length=l.length*4:=by unfold Xu;rw[Ml _ 4 (λ_=>rfl),<- m,D6]
 have c:=λ(f:Nat) (D:f<4) (y:AM) (F:(Jd x u)[f]?=AF y)=>Gy C (j:=i*4+f) (x:=y) (by unfold Xu;rw[Fo (λx:Hk×AM=>Jd x.1 x.2) 4 (λ_=>rfl) p D];exact F) E;obtain⟨g,rfl,A⟩:=c 0 (by decide) _ rfl;refine⟨g,u,rfl,B _ (FB p),A,?_,?_,?_⟩
 ·obtain⟨_,e,h⟩:=c 1 (by decide) _ rfl;simp at e;subst e;exact h
 ·obtain⟨_,e,h⟩:=c 2 (by decide) _ rfl;simp at e;subst e;exact h
 ·obtain⟨_,e,h⟩:=c 3 (by decide) _ rfl;simp at e;subst e;exact h
theorem GI:Tryz.prog.underlying 31=AF (.slice (Tryz.prog.elem 31)):=by kernel_rfl
theorem SY(w:AC):(sizeOf (Tryz.prog.elem 31)).run Tryz.prog w=.ok 4 w:=by kernel_rfl
theorem UC[bn:Ib](h:Yi base p (.slice ao n cap) l)(q:k<=n)(w:AC) :
  (Instr.slice 31 (.slice ao n cap) AI (AF (.int .i64 (k:Int))) AI).run Tryz.prog w=.ok (.slice ao k cap) w:=by
 obtain⟨_,_,_,i⟩:=h;have o:n<=cap:=by obtain⟨j,f,d,z,A⟩:=Kj i;simp only[DB]at d;omega
 rw[run_slice_h w 31 ao n cap GI .i64 _ (by omega) (by omega),Int.toNat_natCast,SY];rcases i.2 with⟨d,_⟩|⟨g,f,m,d,_⟩
 ·simp only[DB]at d;obtain⟨rfl,rfl,rfl⟩:=d;have:k=0:=by omega
  subst this;rfl
 ·simp only[DB]at d;obtain⟨rfl,rfl,rfl⟩:=d;simp[sliced,Result.andThen];intro _;simp[Addr.add]
theorem KK[bn:Ib](h:Zv base w q g m lv L)(n:Nat)(hn:n<=L.recs.length)(I:L.recs.length<=1073741824)(V:∀r∈L.recs,r.s.body.length<=1073741824) :
  DJ Tryz.prog 51 #[.pointer (AF ⟨q,0,AI⟩),.int .i64 n] w λe w'=>∃v,e=.returned v/\Xg w' w.heap.size v (L.recs.take n)/\Xy No w w':=by
 obtain⟨aH,_,_⟩:=h.endCells;obtain⟨lo,lc,rfl,_,aE⟩:=h.recs.form;have aJ:=λ(w':AC)=>UC h.recs (k:=n) hn w';have HH:=BX (A4 h.recs hn I V);have aI:(n:Int)<=1073741824:=by omega
 clear h hn I V aE;go_enter Tryz.func51,Tryz.ntmps51;go_wp2_with fail;go_loopw [5,15] (λv5 O wr=>∃k,O=.int .i64 (k:Nat)/\k<=n/\Xg wr w.heap.size v5 (L.recs.take k)/\Xy No w wr) (λ_ O _=>n-(C0 O).toNat);case atStart=>exact⟨0,rfl,BW _,Xg.nil _ _,Xy.refl _ _⟩
 case round =>
  obtain⟨k,rfl,hk,d,G⟩:=hrel;obtain⟨oo,oc,rfl,_,_⟩:=d.form;by_cases F:k<n
  ·have J:k<L.recs.length:=Nat.lt_of_lt_of_le F HH.out.2.1;have hx:L.recs[k]?=AF L.recs[k]:=BY J;have f:L.recs.take (k+1)=L.recs.take k++[L.recs[k]]:=BM J;generalize L.recs[k]=x at hx f;obtain⟨gi,ui,aB,N,e0,e1,e2,e3⟩:=HH.out.1.cell hx;obtain⟨uo,uc,rfl⟩:=N.form;subst aB;have e0:=G.cell e0 id;have e1:=G.cell e1 id;have e2:=G.cell e2 id;have e3:=G.cell e3 id;have aD:(k:Int)<(n:Int):=by omega
   obtain⟨E,j⟩:∃E,E=L.recs.take k:=⟨_,rfl⟩;rw[<- j]at d f;have H:E.length<=1073741824:=by rw[j,E9];omega
   have C:E.length=(L.recs.take k).length:=by rw[j]
   rw[<- C];have kA:=(Xy.refl No wr).alloc (.cells #[.int .i64 x.who,.int .u64 x.n,.int .i64 x.s.c,.slice uo x.s.body.length uc] 63);have hA:=Qy wr (.cells #[.int .i64 x.who,.int .u64 x.n,.int .i64 x.s.c,.slice uo x.s.body.length uc] 63);have W:=Ju ((N.no G).no kA) (by have:=HH.out.2.2.2 x (FB hx);omega);have o:=BX (A7 d G f H kA hA F);clear d G f H kA hA F hx J j C N hk;go_wp2_with fail;refine W.mono ?_;rintro e w2⟨v2,rfl,A,Q⟩;clear W;obtain⟨S,P,rfl⟩:=A.form;have p:=Q.heap o.out.qf id;have d0:=Qq p 0;have d1:=Qq p 1;have d2:=Qq p 2;have d3:=Qq p 3;have fA:=Qg p;simp at d0 d1 d2 d3;obtain⟨Y,aA⟩:∃Y,w2.setCell ⟨wr.heap.size,3,AI⟩ (.slice S x.s.body.length P)=Y:=⟨_,rfl⟩;have R:Xy (·=wr.heap.size) w2 (w2.setCell ⟨wr.heap.size,3,AI⟩ (.slice S x.s.body.length P)):=Qd _ _;have B:=Qz (i:=3) (u:=.slice S x.s.body.length P) p;have aF:wr.heap.size<(wr.alloc (.cells #[.int .i64 x.who,.int .u64 x.n,.int .i64 x.s.c,.slice uo x.s.body.length uc] 63)).heap.size:=by simp
   have D:=A.keep R (λb U e=>by have:=(A.lt b U).1;have e:b=wr.heap.size:=e;omega);have K:=((o.out.1.no o.out.qe).no Q);have z:Xg (w2.setCell ⟨wr.heap.size,3,AI⟩ (.slice S x.s.body.length P)) w.heap.size (.slice oo E.length oc) E:=by
    obtain⟨xs,h1,h2,Z⟩:=o.out.1;refine⟨xs,h1,λy hy=>(((h2 y hy).keep o.out.qe (λ_ _ e=>e)).keep Q (λ_ _ e=>e)).keep R (λb U e=>?_),Yu (Yu (Yu Z o.out.qe (λ_ _ e=>e)) Q (λ_ _ e=>e)) R (λb U e=>?_)⟩
    ·have:=(Kr.lt (h2 y hy) b U).2;have e:b=wr.heap.size:=e;omega
    ·have:=(BL Z b U).2;have e:b=wr.heap.size:=e;omega
   rw[aA]at R B D z;have p0:=Qq B 0;have p1:=Qq B 1;have p2:=Qq B 2;have p3:=Qq B 3;simp at p0 p1 p2 p3;have kB:=(Xy.refl No Y).alloc (.cells #[.int .i64 x.who,.int .u64 x.n,.int .i64 x.s.c,.slice S x.s.body.length P] 63);have hB:=Qy Y (.cells #[.int .i64 x.who,.int .u64 x.n,.int .i64 x.s.c,.slice S x.s.body.length P] 63);have aG:=o.out.2.1.size;have T:=BX (A5 (z.no kB) ((D.keep kB (λ_ _ e=>e)).mono (B':=w.heap.size) (by omega)) hB ((((o.out.2.1.then o.out.qe).then Q).trans R (λc hc e=>by have e:c=wr.heap.size:=e;omega)).then kB) aG);have X:=T.out.2.2.2.1.size;clear z D hB kB R B p A K Q aF;go_wp2_with(at_builtin;refine Ld rfl _ _ rfl T.out.1 rfl T.out.qc rfl T.out.2.1 (by have:=o.out.qd;omega) X ?_;intro aL aK w5 M k5);go_roundw;case rel =>refine⟨k+1,by congr 1,by have:=o.out.rg;omega,by rw[o.out.qc];exact M,T.out.2.2.2.1.trans k5 (λc hc e=>?_)⟩;obtain⟨xs,h1,h2,Z⟩:=o.out.1;have:=(BL Z c e).1;omega
   case measure=>have:=o.out.rg;simp[C0];omega
  ·have aC:k=n:=by omega
   have aD:¬(k:Int)<(n:Int):=by omega
   subst aC;obtain⟨E,j⟩:∃E,E=L.recs.take k:=⟨_,rfl⟩;rw[<- j]at d;have C:E.length=(L.recs.take k).length:=by rw[j]
   rw[<- C];have o:=BX (A3 d G j);clear d G hk F j C;go_wp2_with fail;go_ret;exact⟨_,rfl,by rw[<- o.out.2.2];exact o.out.1,o.out.2.1⟩
theorem G9[bn:Ib](h:Zv base w q g m lv L)(f:L.recs.length<=1073741824)(d:∀r∈L.recs,r.s.body.length<=1073741824) :
  DJ Tryz.prog 13 #[.pointer (AF ⟨q,0,AI⟩)] w λe i=>∃v,e=.returned v/\Xg i w.heap.size v L.recs/\Xy No w i:=by
 have n:=KK h L.recs.length (BE _) f d;rw[DU (BE _)]at n;obtain⟨j,_,_⟩:=h.endCells;obtain⟨lo,p,rfl,_,_⟩:=h.recs.form;clear h d;go_enter Tryz.func13,Tryz.ntmps13;go_wp2_with(go_at_call 51;refine n.mono ?_;rintro e i ⟨v,rfl,o,k⟩);go_ret;exact⟨_,rfl,o,k⟩
end Go.Proofs.YtfdmbomlkpkegaaGreat
