/- Lemmas. -/
import Derived.Test.YtfdmbomlkpkegaaGreatS30
set_option maxRecDepth 100000
set_option maxHeartbeats 8000000
set_option linter.all false
set_option autoImplicit true
set_option relaxedAutoImplicit true
open Go renaming Calls->DJ,Value->AM,World->AC
open Go.Lib renaming hid->BX
open Go.Value renaming ownBlock->DK
open Go.World renaming size_alloc->FE
open List renaming append_nil->B5,ext_getElem?->PU,getElem?_eq_getElem->BY,getElem?_eq_some_iff->BK,getElem?_map->CK,getElem?_modify->HU,length_append->BO,length_map->D6,mem_of_getElem?->FB,take_of_length_le->DU,take_succ_eq_append_getElem->BM
open Nat renaming add_assoc->AU,le_refl->BE,le_trans->BF,zero_le->BW
open Option renaming none->AI,some->AF
namespace Go.Proofs.YtfdmbomlkpkegaaGreat
open Go Go.RowKit Go.Dr Go.Shelf
theorem DIn.keepF[bn:Ib](h:DIn base w b pv p at_ rest)(hF:Uz base w F)(k:Xy F w d)(f:¬F b):DIn base d b pv p at_ rest:=⟨k.heap h.blk f,h.bytes.keep hF k,h.le,h.left,h.bb,h.small⟩
theorem Us.foot[bn:Ib]{α:Type}{w:AC}{t:TypeId}{c:Nat}{f:α->AM->List AM}{g:α->List UInt8}{v:AM}{l:List α}(h:Us base w t c f g v l)(m:t≠5):Uz base w (λb=>v.ownBlock=AF b):=λb k=>by
 obtain⟨j,i,d⟩:=h.kind b k
 exact⟨j,Qt d,λcs fr e=>by rw[d]at e;simp at e;exact m e.2.1⟩
theorem Us.notOwn[bn:Ib]{α:Type}{base:Nat}{w:AC}{t g:TypeId}{c b:Nat}{f:α->AM->List AM}{i:α->List UInt8}{v:AM}{l:List α}{cs:Array AM}{fr:Nat×Nat}(h:Us base w t c f i v l)(m:w.heap[b]?=AF (.cells cs g fr))(k:t≠g):¬v.ownBlock=AF b:=λe=>by
 obtain⟨_,j,d⟩:=h.kind b e
 rw[m]at d
 simp at d
 exact k d.2.1.symm
theorem JJ(x:Qc)(l:List Qc):Qb (x::l)=x.bytes++Qb l:=by simp[Qb]
theorem JV{l:List Qc}(h:l[i]?=AF x):Qb (l.drop i)=x.bytes++Qb (l.drop (i+1)):=by obtain⟨hi,rfl⟩:=BK.1 h;rw[List.drop_eq_getElem_cons hi,JJ]
theorem JK{l:List Qc}(h:l[i]?=AF x):(Qb (l.take (i+1))).length=(Qb (l.take i)).length+x.bytes.length:=by obtain⟨hi,rfl⟩:=BK.1 h;rw[BM hi];unfold Qb;rw[List.flatMap_append,BO];simp
def Fw (w:AC)(b:Nat)(y:Xn)(k:Nat):Prop:=∃g f d,w.heap[b]?=AF (.cells #[.int .u64 y.low,.int .u64 y.width,.slice g f d] 164 (0,0))/\Rq w (.slice g f d) y k
theorem Fw.no(h:Fw w b y k)(d:Xy No w f):Fw f b y k:=by obtain⟨n,m,j,g,i⟩:=h;exact⟨n,m,j,d.heap g id,i.no d⟩
theorem Fw.block{w f:AC}{b k g:Nat}{y:Xn}{cs:Array AM}{t:TypeId}(h:Fw w b y k)(o:w.heap[g]?=AF (.cells cs t (0,0)))(n:t≠27)(m:¬b=g)(d:Xy (·=g) w f):Fw f b y k:=by obtain⟨z,q,p,i,j⟩:=h;exact⟨z,q,p,d.heap i m,j.block o n d⟩
theorem Rq.keepF(h:Rq w v x k)(q:Xy F w g)(hF:∀b,F b->∃cs t fr,w.heap[b]?=AF (.cells cs t fr)/\t≠27):Rq g v x k:=by
 obtain⟨l,f,j,m⟩:=h;exact⟨l,f.keep q (λb n e=>by
  obtain⟨_,i,d⟩:=f.kind b n;obtain⟨cs,t,fr,p,o⟩:=hF b e;rw[p]at d;simp at d
  exact o d.2.1),j,m⟩
theorem RC{α:Type}{l:List α}{g:α}{f d:α->α}(h:l[a]?=AF g)(j:f g=d g):l.modify a f=l.modify a d:=by
 apply PU;intro i;rw[HU,HU];by_cases hi:a=i
 ·subst hi;rw[h];simp[j]
 ·simp[hi]
theorem Fw.ofV{w:AC}{g k n cap:Nat}{h j m:AM}{y:Xn}{ao:Option Addr}(d:w.heap[g]?=AF (.cells #[h,j,m] 164 (0,0)))(o:Rq w (.slice ao n cap) y k) :
  Fw (((w.setCell ⟨g,0,AI⟩ (.int .u64 y.low)).setCell ⟨g,1,AI⟩ (.int .u64 y.width)).setCell ⟨g,2,AI⟩ (.slice ao n cap)) g y k/\Xy (·=g) w (((w.setCell ⟨g,0,AI⟩ (.int .u64 y.low)).setCell ⟨g,1,AI⟩ (.int .u64 y.width)).setCell ⟨g,2,AI⟩ (.slice ao n cap)):=by
 have f:=((Qd (g:=g) (i:=0) w (.int .u64 y.low)).setCell (p:=⟨g,1,AI⟩) (.inl rfl) (.int .u64 y.width)).setCell (p:=⟨g,2,AI⟩) (.inl rfl) (.slice ao n cap);exact⟨⟨ao,n,cap,by rw[Qz (Qz (Qz d))];rfl,o.block d (by decide) f⟩,f⟩
theorem K8[bn:Ib](h:Hj base w cs inc now recs k)(hp:Qv base w pv (Ji.put a bs l).bytes)(ha:a<16)(hg:now[a]?=AF (fl,wn))(cU:bs<2305843009213693952)(bO:l.length<=64)(hr:∀x∈l,x.Right)(hf:wn.Fine width)(f:(wn.skip bs).allIn l)(hk:k<=1000000)(bP:(Ji.put a bs l).bytes.length<=1099511627776)(bV:recs.length<=1073741824)(hb:base<=w.heap.size)(hT:ban.top<=w.heap.size) :
  DJ Tryz.prog 127 #[.agg cs,pv] w λe w'=>∃cJ,e=.returned (.tuple #[.agg cJ,.bool true])/\Hj base w' cJ inc (now.modify a (λx=>(x.1,(x.2.skip bs).putAll l))) (recs++l.map (λx=>⟨a,x.n,x.s⟩)) (k+l.length)/\Xy No w w':=by
 obtain⟨po,pc,rfl⟩:=hp.form;obtain⟨y,hy⟩:∃y,y=wn.skip bs:=⟨_,rfl⟩;have cm:y.Fine width:=by rw[hy];exact hf.skip (by omega)
 have HH:=BX (A7 h hp hb hT ha hg bV);have S:=BX (A8 bO hr hf (show y.allIn l by rw[hy];exact f) hk cU cm hy);obtain⟨W,hW,kW,dF,hA,T,hD,hS⟩:=Ly h hp hb bP;clear h hp hb hT hg cU bO hr hf f hk bP cm hy bV;obtain⟨A,aU⟩:∃A,A=w.heap.size:=⟨_,rfl⟩;obtain⟨B,ao⟩:∃B,B=w.heap.size+1:=⟨_,rfl⟩;obtain⟨C,ap⟩:∃C,C=w.heap.size+1+1:=⟨_,rfl⟩;rw[<- aU]at hA;rw[<- ao]at T;rw[<- ap]at hD;have cV:=Mp hD;have aQ:¬A=C:=by omega
 have cP:¬B=C:=by omega
 have cz:¬B=A:=by omega
 have cS:W.heap.size=C+1:=by omega
 have O:=BX (A9 kW hA T hS aU ao ap hD cS);have cX:base<=A:=by rw[aU];exact HH.out.qc
 have bL:base<=C:=by omega
 have dR:(a:Int)<16:=by omega
 go_enter Tryz.func127,Tryz.ntmps127;go_upto_region 2 with fail;rw[<- hW];rw[<- ap,<- ao,<- aU];clear hW kW hA T hD hS dF ap ao aU cS ha;go_upto_region 3 with(go_at_call 176;refine cV.mono ?_;rintro e w1 ⟨rfl,cQ,k1⟩);clear cV;have ck:=Ee (rest:=numB bs++(numB l.length++Qb l)) (a:=a) cQ HH.out.qe;have H1:=BX k1;clear cQ k1;go_upto_region 16 with(go_at_call 179;refine ck.mono ?_;rintro e w2 ⟨rfl,aq,k2⟩);clear ck;have bA:=H1.out.trans k2 (λ_ _ e=>e);have am:=bA.heap O.out.2.1 aQ;have bg:Hj base w2 cs inc now recs k:=O.out.2.2.2.1.keep_in bA O.out.2.2.2.2.2.2.2.1.blk bL (by decide) (by decide) (by decide);obtain⟨_,g1,g2,v,g3,aE⟩:=bg.ags a _ HH.out.qf;obtain⟨dQ,dP,dO,rfl⟩:=aE.form;have a0:=Qq am (17+a*3);have a1:=Qq am (17+a*3+1);have a2:=Qq am (17+a*3+2);rw[g1]at a0;rw[g2]at a1;rw[g3]at a2;unfold Mh at a0 a1;have ae:=λ(X:AC) (k:Xy No w2 X)=>Mg (rest:=numB l.length++Qb l) (n:=bs) (aq.no k) S.out.qf;have ax:=λ(X:AC) (k:Xy (·=C) w2 X)=>Aq (aE.block aq.blk (by decide) k) (by have:=S.out.qe;omega) S.out.2.2.1.ok bs (by have:=S.out.qf;omega);rw[<- S.out.rh]at ax;have az:y.width=wn.width:=by rw[S.out.2.2.2.2.2.2.1.width,S.out.2.2.1.width]
 rw[<- az]at ax;have H2:=BX (A6 bA bg ae ax az aq);rw[<- az]at a1;clear bA bg ae ax aE aq k2 am g1 g2 g3 az;go_cut [13] (λdH wx=>∃j,dH=.pointer (AF ⟨j,0,AI⟩)/\Fw wx j y k/\DIn base wx C (.slice po (Ji.put a bs l).bytes.length pc) (Ji.put a bs l).bytes (0+1+(numB a).length+(numB bs).length) (numB l.length++Qb l)/\Xy (·=C) w2 wx/\w2.heap.size<=j);case first =>
  have kd:Xy (·=C) w2 w2.drew:=(Xy.refl _ _).drew;refine Pa (λw'=>Xy (·=C) w2 w') [0,1,2,3,4] [5,6] [8] 7 (by kernel_rfl) (by kernel_rfl) (λ_ _ _ _ _ h=>h) kd ?_;iterate 5(refine Qk (v:=?_) rfl rfl rfl ?_ ?_;rotate_left;focus(
   intro w' hS;have c0:=hS.cell a0 aQ;have c1:=hS.cell a1 aQ;have c2:=hS.cell a2 aQ;go_simp
   try with_reducible rfl))
  refine Qj ?_;have dI:C<w2.heap.size:=Qt H2.out.2.2.2.2.2.blk;refine⟨?_,?_⟩
  ·refine Qx rfl rfl (λK H=>?_);go_simp;have Q:=kd.alloc (.cells #[.int .u64 0,.int .u64 0,.slice AI 0 0] 164);have hA:(w2.drew.alloc (.cells #[.int .u64 0,.int .u64 0,.slice AI 0 0] 164)).heap[w2.heap.size]?=AF (.cells #[.int .u64 0,.int .u64 0,.slice AI 0 0] 164 (0,0)):=Qy w2.drew _;refine H _ _ Q ?_;clear H K;refine Qx rfl rfl (λK H=>?_);go_simp;refine(H2.out.qc _ (((Xy.refl No w2).drew).alloc (.cells #[.int .u64 0,.int .u64 0,.slice AI 0 0] 164))).mono ?_;rintro e w3⟨rfl,aw,k3⟩;have Z:=Q.trans k3 (λ_ _ e=>e);refine H _ _ Z ?_;clear H K;refine Qx rfl rfl (λK H=>?_);go_simp;refine(H2.out.qd _ (Z)).mono ?_;rintro e w4⟨u4,rfl,aC,k4⟩;obtain⟨o4,n4,c4,rfl⟩:=aC.form;have M:=(Z).then k4;refine H _ _ M ?_;clear H K;have T:=k4.heap (k3.heap hA (λe=>by omega)) id;have cF:=M.size;have q0:=Qq T 0;have q1:=Qq T 1;have q2:=Qq T 2;have fB:=Qg T;simp at q0 q1 q2;have f:=aw.no k4;have kk:=M;refine Qh (Qu rfl (Qm ?_));go_wp2_with fail;go_meet;obtain⟨hZ,kZ⟩:=Fw.ofV (y:=y) T aC;have cA:=cF;refine⟨_,rfl,hZ,f.keepF ?_ kZ (λe=>by have e2:C=_:=e;omega),kk.trans kZ (λc hc e=>by have e2:c=_:=e;omega),by omega⟩;rintro c rfl;exact⟨by omega,Qt T,λcs fr e=>by rw[T]at e;simp at e⟩
  ·refine Qx rfl rfl (λK H=>?_);go_simp;refine(H2.out.qc _ ((Xy.refl No w2).drew)).mono ?_;rintro e w3⟨rfl,aw,k3⟩;have Z:=kd.trans k3 (λ_ _ e=>e);refine H _ _ Z ?_;clear H K;refine Qh ⟨?_,?_⟩
   ·refine Qx rfl rfl (λK H=>?_);go_simp;have Q:=Z.alloc (.cells #[.int .u64 0,.int .u64 0,.slice AI 0 0] 164);have hA:(w3.alloc (.cells #[.int .u64 0,.int .u64 0,.slice AI 0 0] 164)).heap[w3.heap.size]?=AF (.cells #[.int .u64 0,.int .u64 0,.slice AI 0 0] 164 (0,0)):=Qy w3 _;refine H _ _ Q ?_;clear H K;refine Qx rfl rfl (λK H=>?_);go_simp;refine(H2.out.qd _ (Q)).mono ?_;rintro e w4⟨u4,rfl,aC,k4⟩;obtain⟨o4,n4,c4,rfl⟩:=aC.form;have M:=(Q).then k4;refine H _ _ M ?_;clear H K;have T:=k4.heap hA id;have cF:=Z.size;have q0:=Qq T 0;have q1:=Qq T 1;have q2:=Qq T 2;have fB:=Qg T;simp at q0 q1 q2;have f:=(aw.no ((Xy.refl No w3).alloc (.cells #[.int .u64 0,.int .u64 0,.slice AI 0 0] 164))).no k4;have kk:=M;refine Qh (Qu rfl (Qm ?_));go_wp2_with fail;go_meet;obtain⟨hZ,kZ⟩:=Fw.ofV (y:=y) T aC;have cA:=cF;refine⟨_,rfl,hZ,f.keepF ?_ kZ (λe=>by have e2:C=_:=e;omega),kk.trans kZ (λc hc e=>by have e2:c=_:=e;omega),by omega⟩;rintro c rfl;exact⟨by omega,Qt T,λcs fr e=>by rw[T]at e;simp at e⟩
   ·refine Qx rfl rfl (λK H=>?_);go_simp;refine(H2.out.qd _ Z).mono ?_;rintro e w4⟨u4,rfl,aC,k4⟩;obtain⟨o4,n4,c4,rfl⟩:=aC.form;have M:=Z.then k4;refine H _ _ M ?_;clear H K;refine Qh ?_;refine Qx rfl rfl (λK H=>?_);go_simp;have Q:=M.alloc (.cells #[.int .u64 0,.int .u64 0,.slice AI 0 0] 164);have hA:(w4.alloc (.cells #[.int .u64 0,.int .u64 0,.slice AI 0 0] 164)).heap[w4.heap.size]?=AF (.cells #[.int .u64 0,.int .u64 0,.slice AI 0 0] 164 (0,0)):=Qy w4 _;refine H _ _ Q ?_;clear H K;have f:=aw.no k4;have cA:=M.size;refine Qh (Qu rfl (Qm ?_));go_wp2_with fail;go_meet;have kY:=(Xy.refl No w4).alloc (.cells #[.int .u64 y.low,.int .u64 y.width,.slice o4 n4 c4] 164);exact⟨_,rfl,⟨_,_,_,Qy _ _,aC.no kY⟩,f.no kY,M.then kY,cA⟩
 case rest =>
  obtain⟨j,rfl,aO,ar,k3,bG⟩:=hcut
  rename AC=>W3
  obtain⟨cu,bE⟩:∃x,x=0+1+(numB a).length+(numB bs).length:=⟨_,rfl⟩;rw[<- bE]at ar;clear bE;have cZ:l.length<18446744073709551616:=by have:=S.out.1;omega
  have ae:=Mq ar cZ;clear cZ;have H3:=BX (A4 aO ar k3 bG);clear aO ar k3 bG a1;go_upto_block 1 with(go_at_call 180;refine ae.mono ?_;rintro e w4 ⟨rfl,bf,k4⟩);clear ae;obtain⟨cv,bF⟩:∃x,x=cu+(numB l.length).length:=⟨_,rfl⟩;rw[<- bF]at bf;clear bF;have H4:=BX (A2 k4 bf);clear k4 bf;go_wp2_with fail;go_loopw [14,15] (λcr cH wr=>∃i,i<=l.length/\cH=.int .u64 ((l.length-i:Nat):Int)/\Gs base wr cr (l.take i)/\(∀b,cr.ownBlock=AF b->w4.heap.size<=b)/\DIn base wr C (.slice po (Ji.put a bs l).bytes.length pc) (Ji.put a bs l).bytes (cv+(Qb (l.take i)).length) (Qb (l.drop i))/\Xy (·=C) w4 wr) (λ_ cH _=>(intOf cH).toNat);case atStart=>exact⟨0,BW _,rfl,Us.nil _ _ _ _ _ _,λb e=>by simp[DK]at e,by simpa[Qb]using H4.out.2,Xy.refl _ _⟩
  case round =>
   obtain⟨i,hi,rfl,L,m,f,kr⟩:=hrel;obtain⟨vo,vc,rfl,_,_⟩:=L.form;obtain⟨d,hd⟩:∃d,d=l.length-i:=⟨_,rfl⟩;rw[<- hd];have e2:=Qq f.blk 2;simp at e2;by_cases Y:i<l.length
   ·have hx:l[i]?=AF l[i]:=BY Y;generalize l[i]=z at hx;have aK:=S.out.2.1 z (FB hx);rw[JV hx]at f;have aI:l.take (i+1)=l.take i++[z]:=by obtain⟨bp,rfl⟩:=BK.1 hx;exact BM bp
    have bq:=JK hx;obtain⟨tk,aR⟩:∃tk,tk=l.take i:=⟨_,rfl⟩;have bu:(l.take i).length<=64:=by have:=S.out.1;simp;omega
    rw[<- aR]at L aI bq m f bu⊢;have bl:base<=wr.heap.size:=by have:=H4.out.2.bb;have:=Qt f.blk;omega
    have bj:ban.top<=wr.heap.size:=by have:=HH.out.qd;have:=O.out.1.size;have:=H1.out.size;have:=H2.out.1.size;have:=H3.out.2.2.1.size;have:=H4.out.1.size;have:=kr.size;omega
    have av:=Oq f aK bl bj;have dB:(0:Int)<(d:Int):=by omega
    have cM:=S.out.1;have aE:IntKind.u64.wrap ((d:Int)-1)=((d-1:Nat):Int):=by rw[wraps_u64 _ (by omega) (by omega)];omega
    obtain⟨d1,bm⟩:∃d1,d1=d-1:=⟨_,rfl⟩;rw[<- bm]at aE;have D:=BX (A12 L m f kr aI hd Y bu bm bl bj bq);clear L m f kr aI hd Y bu bm bl bj hx aK bq hi aR;go_wp2_with fail;refine av.mono ?_;rintro e w5⟨v5,rfl,ak,bM,k5⟩;clear av;obtain⟨o5,c5,rfl⟩:=ak.form;have ac:Gs base w5 _ tk:=Us.block D.out.1 D.out.2.2.1.blk D.out.2.2.1.bb (by decide) (by decide) k5;have cN:=ak.bytes (base:=base) (λ_=>D.out.qk);have Q:=(Xy.refl No w5).alloc (.cells #[.int .u64 z.n,.int .i64 z.s.c,.slice o5 z.s.body.length c5] 206);have bR:=Qy w5 (.cells #[.int .u64 z.n,.int .i64 z.s.c,.slice o5 z.s.body.length c5] 206);have bH:base<=w5.heap.size:=BF D.out.qj k5.size;have bd:w4.heap.size<=w5.heap.size:=BF D.out.2.2.2.1.size k5.size;have H5:=BX (A8 (Us.no ac Q) (bM.no Q) k5 bR (cN.no Q) bH bd Q);clear ac ak bM k5 cN Q bR bH bd;go_wp2_with(at_builtin;refine Nd rfl _ _ _ rfl rfl JZ rfl (by decide) (by decide) (by decide) H5.out.1 rfl H5.out.qd rfl (λq hq=>by simp[ZA]at hq;rcases hq with rfl|rfl|rfl<;>rfl) rfl rfl H5.out.qe (by have:=D.out.qh;omega) (by have:=H5.out.qf;have:=H5.out.2.2.2.2.2.2.2.size;omega) (B:=w4.heap.size) (by have:=O.out.2.2.2.2.2.2.2.1.bb;have:=H3.out.2.2.1.size;have:=H4.out.1.size;have:=Qt O.out.2.2.2.2.2.2.2.1.blk;have:=H1.out.size;have:=H2.out.1.size;omega) D.out.2.1 (by have:=H5.out.qg;have:=H5.out.2.2.2.2.2.2.2.size;omega) ?_;intro dY dX R V bw k6);go_roundw;case rel =>
     refine⟨i+1,by have:=D.out.qg;omega,by congr 1;have:=D.out.qf;have:=D.out.qi;omega,by rw[D.out.qe];exact V,bw,?_,?_⟩
     ·rw[D.out.rl,<- AU];exact H5.out.2.1.keepF (Us.foot H5.out.1 (by decide)) k6 (Us.notOwn H5.out.1 H5.out.2.1.blk (by decide))
     ·exact((D.out.2.2.2.1.trans H5.out.qc (λ_ _ e=>e)).then H5.out.rh).trans k6 (λc hc e=>by have:=D.out.2.1 c e;omega)
    case measure=>have:=D.out.qf;have:=D.out.qg;have:=D.out.qi;simp[intOf];omega
   ·have aF:i=l.length:=by omega
    have dA:d=0:=by omega
    subst dA;have dS:¬(0:Int)<((0:Nat):Int):=by omega
    rw[aF,DU (BE _)]at L;rw[aF,List.drop_length]at f;have bK:=Lu f;have cB:(l.take i).length=l.length:=by rw[aF,DU (BE _)]
    rw[cB];rw[cB]at m
    rename AC=>w5
    have D:=BX (A4 L m f kr);clear L m f kr hd Y aF cB hi;go_upto_region 24 with(go_at_call 178;refine bK.mono ?_;rintro e R ⟨rfl,k6⟩);clear bK;have kC:=((H3.out.2.2.1.trans H4.out.1 (λ_ _ e=>e)).trans D.out.2.2.2 (λ_ _ e=>e)).then k6;have an:=kC.heap (H2.out.1.heap O.out.2.1 aQ) aQ;have aW:=kC.heap (H2.out.1.heap O.out.qc cP) cP;have bh:Hj base R cs inc now recs k:=H2.out.2.1.keep_in kC H2.out.2.2.2.2.2.blk bL (by decide) (by decide) (by decide);have V:Gs base R _ l:=D.out.1.no k6;have aN:¬j=C:=by have:=H3.out.2.2.2;have:=Qt H2.out.2.2.2.2.2.blk;omega
    have aY:Fw R j y k:=((H3.out.1.block H3.out.2.1.blk (by decide) aN H4.out.1).block H4.out.2.blk (by decide) aN D.out.2.2.2).no k6;obtain⟨lv,br,bt⟩:=bh.recs;obtain⟨lo,lc,rfl,_,_⟩:=bt.form;have cG:=Qq an 65;rw[br]at cG;have cL:w2.heap.size<=R.heap.size:=kC.size;have cT:base<=R.heap.size:=by have:=Qt an;omega
    have H6:=BX (A12 kC an aW bh V aY bt cL cT br aN D.out.2.1);clear kC an aW bh V aY bt cL cT br aN k6 D;have cq:=λo=>((Xy.refl No R).alloc o).cell cG id;clear cG;have co:=Qy R (.cells #[] 175);have bC:=(Xy.refl No R).alloc (.cells #[] 175);have cW:(R.alloc (.cells #[] 175)).ownsRow R.heap.size 175 4 (.slice (AF ⟨R.heap.size,0,AI⟩) 0 0) 0 []:=⟨by simp,.inr ⟨_,0,#[],rfl,BE _,co,by simp⟩⟩;have aW:R.heap.size<=(R.alloc (.cells #[] 175)).heap.size:=bC.size;have bN:Hy base (R.alloc (.cells #[] 175)) _ recs:=H6.out.2.2.2.2.2.2.1.no bC;have HZ:=BX (A4 bC bN aW cW);clear co bC cW aW bN;go_upto_region 25 with(at_builtin;refine Pe rfl _ _ _ rfl rfl Q7 rfl (by decide) (by decide) (by decide) (λ_ _=>rfl) (λy u hu q hq=>by simp[Jd]at hq;rcases hq with rfl|rfl|rfl|rfl<;>first|rfl|exact hu) HZ.out.2.2.2 H6.out.qi HZ.out.qc rfl HZ.out.2.1 rfl (by have:=HH.out.rg;omega) ?_;intro v7 w7 bx af k7);obtain⟨dW,dV,rfl,_,_⟩:=bx.form;have cp:Xy No R w7:=HZ.out.1.absorb k7 (λc e=>by simp[DK]at e;omega);have H7:=BX (A3 bx af cp);clear bx af k7 cp HZ cq;go_wp2_with fail;go_loopw [16,103] (λct al wr=>∃i,al=.int .i64 (i:Nat)/\i<=l.length/\Hy base wr ct (recs++(l.take i).map (λx=>⟨a,x.n,x.s⟩))/\(∀b,ct.ownBlock=AF b->R.heap.size<=b)/\Fw wr j (y.putAll (l.take i)) (k+i)/\Xy (·=j) R wr) (λ_ al _=>l.length-(intOf al).toNat);case atStart=>exact⟨0,rfl,BW _,by simpa[Hy]using H7.out.1,H7.out.2.1,H6.out.2.2.2.2.2.1.no H7.out.2.2,(Xy.refl _ _).then H7.out.2.2⟩
    case round =>
     obtain⟨i,rfl,hi,aG,m,aO,kr⟩:=hrel;obtain⟨ro,rc,rfl,_,_⟩:=aG.form;obtain⟨N,hN⟩:∃N,N=(recs++(l.take i).map (λx=>(⟨a,x.n,x.s⟩:Hk))).length:=⟨_,rfl⟩;rw[<- hN]at aG m⊢;have I:base<=j:=by have:=Qt O.out.2.2.2.2.2.2.2.1.blk;have:=H1.out.size;have:=H2.out.1.size;have:=H3.out.2.2.2;have:=O.out.2.2.2.2.2.2.2.1.bb;omega
     obtain⟨xo,xn,xc,G,aA⟩:=aO;obtain⟨yo,yn,yc,be,_⟩:=H6.out.qf;have ab:Gs base wr _ l:=Us.block H6.out.qe be I (by decide) (by decide) kr;by_cases Y:i<l.length
     ·have hx:l[i]?=AF l[i]:=BY Y;generalize l[i]=z at hx;have aK:=S.out.2.1 z (FB hx);obtain⟨t,ht⟩:∃t,t=y.putAll (l.take i):=⟨_,rfl⟩;have J:t.Fine width:=by rw[ht];exact S.out.2.2.2.2.2.2.1.putAll (λx hx=>(S.out.2.1 x (List.mem_of_mem_take hx)).1)
      have aR:t.takes z.n=true:=by rw[ht];exact Bp S.out.qd hx
      have ci:y.putAll (l.take (i+1))=t.put z.n:=by rw[ht];exact Ep y hx
      rw[<- ht]at G aA;obtain⟨gi,ui,av,cC,dT,dU,au⟩:=Us.at' ab (λ_ _=>rfl) hx;have e0:=au 0 _ rfl;rw[Nat.add_zero]at e0;have e1:=au 1 _ rfl;have e2:=au 2 _ rfl;obtain⟨uo,uc,rfl⟩:=cC.form;have dC:(i:Int)<(l.length:Int):=by omega
      have dK:¬(2305843009213693952:Int)<=(z.n:Int):=by have:=aK.1;omega
      have Q:=(Xy.refl No wr).alloc (.cells #[.int .u64 z.n,.int .i64 z.s.c,.slice uo z.s.body.length uc] 206);have b0:=Qq G 0;have b1:=Qq G 1;have b2:=Qq G 2;simp at b0 b1 b2;have cw:=λo=>((Xy.refl No wr).alloc o).cell b0 id;have cx:=λo=>((Xy.refl No wr).alloc o).cell b1 id;have cy:=λo=>((Xy.refl No wr).alloc o).cell b2 id;have cM:=S.out.1;have dD:=S.out.qe;have aj:=Dh (aA.no Q) (by omega) J.ok z.n;rw[aR]at aj;have bS:=λ(w':AC) (kk:Xy No (wr.alloc (.cells #[.int .u64 z.n,.int .i64 z.s.c,.slice uo z.s.body.length uc] 206)) w')=>GE ((aA.no Q).no kk) (by omega) J.ok z.n (by have:=aK.1;omega) aR;have ad:=Qy wr (.cells #[.int .u64 z.n,.int .i64 z.s.c,.slice uo z.s.body.length uc] 206);have bI:=Q.heap G id;have cK:=Qt G;have cj:(t.put z.n).width=t.width:=by rw[(J.put aK.1).width,J.width]
      subst av;have cR:N<=1099511627776:=by have:=HH.out.rg;rw[hN,BO,D6,List.length_take];omega
      have D:=BX (A16 kr Q aG m bS ad bI ci Y hx cC hN I cR cj cK);clear aK J aR ci ab cC aA G Q bS ad Y ht hx hi kr aG m au bI hN I cR dD cM b0 b1 b2 cj cK;go_upto_region 31 with(first
       | (go_at_call 123;refine(D.out.qe w8 k8).mono ?_;rintro e w9 ⟨u9,rfl,bo,k9⟩;obtain⟨o9,n9,c9,rfl⟩:=bo.form;have U:=k9.heap aX id;have cb:=k9.heap bv id;have p0:=Qq U 0;have p1:=Qq U 1;have p2:=Qq U 2;simp at p0 p1 p2;have fp:=Qg U)
       | (go_at_call 122;refine aj.mono ?_;rintro e w8 ⟨rfl,k8⟩;have aX:=k8.heap D.out.qg id;have q0:=Qq aX 0;have q1:=Qq aX 1;have q2:=Qq aX 2;have bv:=k8.heap D.out.qf id;have n0:=Qq bv 0;simp at n0 q0 q1 q2))
      obtain⟨ah,ag,bX,ai,_,_,_,bY,bW,ch,bZ,cg,bz,bU,bc,cf⟩:=D.out;obtain⟨ay,aL⟩:=Fw.ofV (y:=t.put z.n) U bo;rw[bc]at ay aL;have cD:=(ag.then k8).then k9;have bB:=(((Xy.refl (·=j) wr).then ag).then (k8.then k9)).trans aL (λ_ _ e=>e);have aB:=aL.heap cb (λe=>by have e:wr.heap.size=j:=e;omega);have m0:=Qq aB 0;have m1:=Qq aB 1;have m2:=Qq aB 2;have aH:Hy base _ _ _:=Us.block (Us.no bX cD) U bz (by decide) (by decide) aL;have aJ:=(bZ.no cD).keep (F:=(·=j)) (λc hc=>by have hc:c=j:=hc;subst hc;exact⟨bz,Qt U,λcs fr e=>by rw[U]at e;simp at e⟩) aL;obtain⟨aT,bD⟩:∃aT,aT=(((w9.setCell ⟨j,0,AI⟩ (.int .u64 (t.put z.n).low)).setCell ⟨j,1,AI⟩ (.int .u64 t.width)).setCell ⟨j,2,AI⟩ (.slice o9 n9 c9)):=⟨_,rfl⟩;rw[<- bD]at ay aL bB aB m0 m1 m2 aH aJ⊢;simp at m0 m1 m2;have kR:=(Xy.refl No aT).alloc (.cells #[.int .i64 a,.int .u64 z.n,.int .i64 z.s.c,.slice uo z.s.body.length uc] 175);have ce:=Qy aT (.cells #[.int .i64 a,.int .u64 z.n,.int .i64 z.s.c,.slice uo z.s.body.length uc] 175);have cl:R.heap.size<=aT.heap.size:=BF ah.size bB.size;have HX:=BX (A7 (ay.no kR) (bB.then kR) (Us.no aH kR) ce (aJ.no kR) kR.size cl);have HY:=BX (A7 ah ai bY bW ch cg bU);have dJ:(l.length:Int)<=64:=by have:=S.out.1;omega
      clear ay aL cD bB aB aH aJ bD kR ce cl ah ag bX ai bY bW ch bZ cg bz bU bc cf D k8 k9 aX bv U cb bo n0 q0 q1 q2 p0 p1 p2 fp cw cx cy aj;go_wp2_with(at_builtin;refine Nd rfl _ _ _ rfl rfl Q7 rfl (by decide) (by decide) (by decide) HX.out.qc rfl HX.out.qd rfl (y:=⟨a,z.n,z.s⟩) (λq hq=>by simp[Jd]at hq;rcases hq with rfl|rfl|rfl|rfl<;>rfl) rfl rfl HX.out.qe (by rw[<- HY.out.qf];exact HY.out.rg) (by have:=H6.out.qi;have:=HX.out.qf;have:=HX.out.rg;omega) (B:=R.heap.size) H6.out.qi HY.out.2.1 (by have:=HX.out.qf;have:=HX.out.rg;omega) ?_;intro dM dL dZ bT aP cE;rw[<- HY.out.qf]at bT aP⊢);refine⟨⟨i+1,by congr 1,by have:=HY.out.qd;omega,?_,aP,?_,?_⟩,by have:=HY.out.qd;simp[intOf];omega⟩
      ·obtain⟨bp,hz⟩:=BK.1 HY.out.qe;rw[BM bp,hz,List.map_append,<- List.append_assoc];exact bT
      ·rw[HY.out.qc,<- AU];obtain⟨zo,zn,zc,cn,dG⟩:=HX.out.1;exact⟨zo,zn,zc,cE.heap cn (Us.notOwn HX.out.qc cn (by decide)),dG.keepF cE (λb hb=>by obtain⟨_,dN,hc⟩:=Us.kind HX.out.qc b hb;exact⟨_,_,_,hc,by decide⟩)⟩
      ·exact(HY.out.1.trans HX.out.2.1 (λ_ _ e=>e)).trans cE (λc hc e=>by have:=HY.out.2.1 c e;omega)
     ·have aF:i=l.length:=by omega
      have dC:¬(i:Int)<(l.length:Int):=by omega
      rename AC=>w8
      rw[aF,DU (BE _)]at aG G aA;clear aF;have dE:=Qt H2.out.2.2.2.2.2.blk;have cc:¬A=j:=by have:=H3.out.2.2.2;have:=O.out.qe;have:=O.out.qg;omega
      have cd:¬B=j:=by have:=H3.out.2.2.2;have:=O.out.qf;have:=O.out.qg;omega
      have P:=kr.heap H6.out.2.1 cc;have cO:=kr.heap H6.out.qc cd;have bi:Hj base w8 cs inc now recs k:=H6.out.2.2.2.1.keep_in kr be I (by decide) (by decide) (by decide);obtain⟨_,g1,g2,v,g3,aE⟩:=bi.ags a _ HH.out.qf;have a0:=Qq P (17+a*3);have a1:=Qq P (17+a*3+1);have a2:=Qq P (17+a*3+2);have cI:=Qq P 65;rw[g1]at a0;rw[g2]at a1;rw[g3]at a2;rw[H6.out.qj]at cI;unfold Mh at a0 a1;have fA:=Qg P;have b0:=Qq G 0;have b1:=Qq G 1;have b2:=Qq G 2;simp at b0 b1 b2;obtain⟨z,hz⟩:∃z,z=y.putAll l:=⟨_,rfl⟩;rw[<- hz]at G aA b0 b1;have aS:=(((Qd (g:=A) (i:=17+a*3) w8 (.int .u64 z.low)).setCell (p:=⟨A,17+a*3+1,AI⟩) (.inl rfl) (.int .u64 z.width)).setCell (p:=⟨A,17+a*3+2,AI⟩) (.inl rfl) (.slice xo xn xc)).setCell (p:=⟨A,65,AI⟩) (.inl rfl) (.slice ro N rc);have aM:=Qz (i:=65) (u:=.slice ro N rc) (Qz (i:=17+a*3+2) (u:=.slice xo xn xc) (Qz (i:=17+a*3+1) (u:=.int .u64 z.width) (Qz (i:=17+a*3) (u:=.int .u64 z.low) P)));have aV:=aS.heap cO cz;have E:=(bi.keep aS (λx e=>by have e:x=A:=e;subst e;exact⟨cX,_,P⟩)).setPut HH.out.qe (Nat.le_add_right k l.length) (aA.block P (by decide) aS) (Us.block aG P cX (by decide) (by decide) aS);have cY:Xy No w _:=((((O.out.1.absorb H2.out.1 (λx e=>by have e:x=C:=e;have:=O.out.qg;omega)).absorb H6.out.1 (λx e=>by have e:x=C:=e;have:=O.out.qg;omega)).absorb kr (λx e=>by have e:x=j:=e;have:=H3.out.2.2.2;have:=O.out.qg;omega))).absorb aS (λx e=>by have e:x=A:=e;have:=O.out.qe;omega);have bQ:now.modify a (λx=>(x.1,z))=now.modify a (λx=>(x.1,(x.2.skip bs).putAll l)):=RC HH.out.qf (by rw[hz,S.out.rh]);have aZ:=Ae cY E aM aV (by have:=O.out.qf;omega) (by have:=O.out.qf;have:=HH.out.qc;omega);rw[bQ]at aZ E;obtain⟨W4,bk⟩:∃W4,W4=((((w8.setCell ⟨A,17+a*3,AI⟩ (.int .u64 z.low)).setCell ⟨A,17+a*3+1,AI⟩ (.int .u64 z.width)).setCell ⟨A,17+a*3+2,AI⟩ (.slice xo xn xc)).setCell ⟨A,65,AI⟩ (.slice ro N rc)):=⟨_,rfl⟩;rw[<- bk]at aM E aZ aV;obtain⟨aD,bJ⟩:∃aD,aD=((((cs.setIfInBounds (17+a*3) (.int .u64 z.low)).setIfInBounds (17+a*3+1) (.int .u64 z.width)).setIfInBounds (17+a*3+2) (.slice xo xn xc)).setIfInBounds 65 (.slice ro N rc)):=⟨_,rfl⟩;rw[<- bJ]at aM E aZ;have HX:=BX aZ;clear P cO bi aE g1 g2 g3 aS cY aZ bQ G aA aG m kr ab be hz hi Y hN I bJ dE cc cd;go_upto_region 34 with fail;rw[<- bk];clear bk fA a0 a1 a2 cI b0 b1 b2;go_wp2_with(first|(refine wpList_load_row rfl 168 _ rfl A rfl 168 aD (0,0) _ aM Tryz.underlying168 rfl E.info ?_)|(refine wpList_store_row rfl 168 _ _ rfl B aD rfl rfl 168 _ aV E.info (by rw[E.size];rfl) E.all ?_));refine bodyPost_ret (v:=.tuple #[.agg aD,.bool true]) (Jl rfl _ _ B 168 aD (0,0) _ _ rfl rfl HX.out.1 Tryz.underlying168 rfl E.info) rfl ⟨aD,rfl,HX.out.2.1,HX.out.2.2⟩
theorem Al{l:List AgS}(e:∀g,((f g).floor,(f g).now)=h (g.floor,g.now)):(l.modify a f).map (λg=>(g.floor,g.now))=(l.map (λg=>(g.floor,g.now))).modify a h:=by
 apply PU;intro i;rw[CK,HU,HU,CK];cases l[i]? with
 | none=>rfl
 | some g =>
  by_cases hi:a=i
  ·simp[hi,e]
  ·simp[hi]
theorem SF(width:Nat)(ts:List Ji)(h:∀(k:Nat) r,ts[k]?=AF r->(told width (ts.take k)).can r):∀k,(told width (ts.take k)).recs.length<=64*k:=by
 intro k
 induction k with
 | zero=>simp[told,Xs.start]
 | succ k g =>
  by_cases f:k<ts.length
  ·rw[BM f,Vv];have d:=h k _ (BY f);generalize ts[k]=r at d;cases r with
   | inc n=>show(told width (ts.take k)).recs.length<=_;omega
   | floor a n=>show(told width (ts.take k)).recs.length<=_;omega
   | put a b l =>
    show((told width (ts.take k)).recs++l.map _).length<=_;have:=d.qc;rw[BO,D6];omega
  ·rw[DU (by omega)]at g⊢;omega
def ZP [bn:Ib](base:Nat)(w:AC)(cs:Array AM)(L:Xs):Prop:=Hj base w cs L.inc L.now L.recs L.recs.length
theorem K9[bn:Ib](h:ZP base w cs L)(I:Qv base w pv r.bytes)(p:L.Ok width)(C:L.can r)(m:r.bytes.length<=1099511627776)(q:L.recs.length<=1000000)(G:base<=w.heap.size)(K:ban.top<=w.heap.size) :
  DJ Tryz.prog 127 #[.agg cs,pv] w λe f=>∃d,e=.returned (.tuple #[.agg d,.bool true])/\ZP base f d (L.step r)/\Xy No w f:=by
 cases r with
 | inc n=>exact K7 h I C.1 C.2 G
 | floor a n =>
  obtain⟨i,o,N⟩:=C;obtain⟨x,J,A,B,z⟩:=p.at i;have H:L.now[a]?=AF (x.floor,x.now):=by unfold Xs.now;rw[CK,J];rfl
  refine(XF h I i H (by rw[z]at o;exact o) N G).mono ?_;rintro e f⟨d,D,E,F⟩;refine⟨d,D,?_,F⟩;show Hj base f d L.inc ((L.ag.modify a (λg=>{g with floor:=n})).map (λg=>(g.floor,g.now))) L.recs L.recs.length;rw[Al (h:=λx=>(n,x.2)) (λg=>rfl)];exact E
 | put a b l =>
  obtain⟨i,j,M,O,k⟩:=C;obtain⟨x,J,A,B,z⟩:=p.at i;have H:L.now[a]?=AF (x.floor,x.now):=by unfold Xs.now;rw[CK,J];rfl
  rw[B]at k;refine(K8 h I i H j M O A.fine k q m (by omega) G K).mono ?_;rintro e f⟨d,D,E,F⟩;refine⟨d,D,?_,F⟩;show Hj base f d L.inc ((L.ag.modify a (λg=>{g with now:=(g.now.skip b).putAll l})).map (λg=>(g.floor,g.now))) (L.recs++l.map (λx=>⟨a,x.n,x.s⟩)) (L.recs++l.map (λx=>(⟨a,x.n,x.s⟩:Hk))).length;rw[Al (h:=λx=>(x.1,(x.2.skip b).putAll l)) (λg=>rfl),BO,D6];exact E
theorem K6[bn:Ib]{base:Nat}{w:AC}{p q:Nat}{lv:AM}{x:Qn}{width:Nat}{size safe:Int}{ss:List Jh}{ts:List Ji}(h:Jg base w p q lv x width size safe)(G:base<=w.heap.size)(E:ban.top<=w.heap.size)(M:x.l.length<=1000)(R:Ri x.l<=1099511627776)(O:segs6 x.l=Gt ss)(Q:Hs ss)(H:Qw ss=ts.map Ji.bytes)(T:1<=width/\width<=1024)(S:ts.length<=10000)(g:∀r∈ts,r.bytes.length<=1000)(m:∀(k:Nat) r,ts[k]?=AF r->(told width (ts.take k)).can r)(n:Int)(P:-9223372036854775808<=n/\n<=9223372036854775807) :
  DJ Tryz.prog 74 #[.pointer (AF ⟨p,0,AI⟩),.int .i64 n] w λe i=>∃cs,e=.returned (.tuple #[.agg cs,.int .i64 0])/\ZP base i cs (told width (ts.take (Ra n ts.length)))/\Xy No w i:=by
 have A:(Qw ss).length=ts.length:=by rw[H,D6]
 have:=XD (St:=λk w cs=>ZP base w cs (told width (ts.take k))) h G E M R O Q (by omega) n P ⟨λk w cs h=>⟨h.size,h.all⟩,λk a b cs F h U hF=>Hj.keep h U hF⟩
  (λi _=>Hj.start base width i _) (λk r i cs pv d I D C=>by
   rw[H,CK]at d;cases f:ts[k]? with
   | none=>rw[f]at d;simp at d
   | some t =>
    rw[f]at d;simp at d;subst d;have z:=(BK.1 f).1;have B:=SF width ts m k;have N:=g t (FB f);refine(K9 D C (Gb T (λk' V o=>((Jc.mk rfl rfl rfl m:Jc width ts (told width ts)).take k).can k' V o)) (m k t f) (by omega) (by omega) (BF G I.size) (BF E I.size)).mono ?_;rintro e W⟨j,J,K,L⟩;refine⟨j,J,?_,L⟩;rw[BM z,Vv];obtain⟨_,e⟩:=BK.1 f;rw[e]
    exact K)
 rw[A]at this;exact this
theorem Cf{s:Ys}(m:s.body.length<=1099511627776):DJ Tryz.prog 120 #[.agg #[.int .i64 s.c,.slice ao s.body.length cap]] w λe k=>e=.returned (.bool s.right)/\Xy No w k:=by
 have f:Xy No w (w.alloc (.cells #[.int .i64 s.c,.slice ao s.body.length cap] 173)):=(Xy.refl _ _).alloc _;by_cases h:0<=s.c
 ·by_cases i:s.c<8
  ·by_cases j:s.body.length<=4096
   ·have g:(s.body.length:Int)<=4096:=by omega
    have d:s.right=true:=by simp[Ys.right,h,i,j]
    rw[d];clear d;go_enter Tryz.func120,Tryz.ntmps120;go_wp2;go_ret;exact⟨rfl,f⟩
   ·have g:¬(s.body.length:Int)<=4096:=by omega
    have d:s.right=false:=by simp[Ys.right];omega
    rw[d];clear d;go_enter Tryz.func120,Tryz.ntmps120;go_wp2;go_ret;exact⟨rfl,f⟩
  ·have d:s.right=false:=by simp[Ys.right];omega
   rw[d];clear d;go_enter Tryz.func120,Tryz.ntmps120;go_wp2;go_ret;exact⟨rfl,f⟩
 ·have d:s.right=false:=by simp[Ys.right];omega
  rw[d];clear d;go_enter Tryz.func120,Tryz.ntmps120;go_wp2;go_ret;exact⟨rfl,f⟩
theorem XP[bn:Ib]{b:List UInt8}(h:Qv base w v b)(B:b.length<=1073741824)(A:ban.top<=w.heap.size) :
  DJ Tryz.prog 204 #[v] w λe E=>∃D,e=.returned D/\Kr E w.heap.size D (numB b.length++b)/\Xy No w E:=by
 obtain⟨ao,cap,rfl⟩:=h.form;have g:=Qp (n:=b.length) (by omega);obtain⟨n,o⟩:∃n,n=b.length:=⟨_,rfl⟩;rw[<- o]at g⊢;have f:DJ Tryz.prog 98 #[.int .u64 n] w _:=Jo 9 n (by omega) (by omega) w;have J:IntKind.u64.wrap (n:Int)=(n:Int):=by rw[wraps_u64 _ (by omega) (by omega)]
 have i:=BX (A5 h B A o g);clear h B A o g;go_enter Tryz.func204,Tryz.ntmps204;go_upto_region 1 with fail;go_wp2_with fail;refine f.mono ?_;rintro e I⟨K,rfl,d,q⟩;clear f;obtain⟨H,F,rfl⟩:=d.form;have p:=i.out.1.no q;rw[<- i.out.qd]at p;have j:=Ko (d.bytes (base:=base) (λ_=>i.out.qc)) p;have m:=Xv j (by have:=i.out.2.1;have:=i.out.re;simp;omega);have C:=(Xy.refl No I).alloc (.cells #[.slice H (numB n).length F,.slice ao n cap] 59);have z:=BX (q.then C);clear p j d q C;go_wp2_with fail;refine m.mono ?_;rintro e M⟨L,rfl,k,G⟩;go_wp2_with fail;go_ret;refine⟨_,rfl,?_,z.out.then G⟩;have:=k.mono z.out.size;simpa using this
theorem UZ[bn:Ib]{s:Ys}(h:Qv base w v s.body)(P:s.Right)(hT:ban.top<=w.heap.size) :
  DJ Tryz.prog 174 #[.agg #[.int .i64 s.c,v]] w λe B=>∃F,e=.returned F/\Kr B w.heap.size F s.bytes/\Xy No w B:=by
 obtain⟨ao,cap,rfl⟩:=h.form;obtain⟨c,hc,L,f,m⟩:=Wa P [];rw[hc];have aC:IntKind.u8.wrap (c:Int)=(c:Int):=by rw[IntKind.wrap_u8];omega
 obtain⟨W,O⟩:∃W,W=w.alloc (.cells #[.int .i64 c,.slice ao s.body.length cap] 173):=⟨_,rfl⟩;have R:Xy No w W:=by rw[O];exact(Xy.refl _ _).alloc _
 have Z:W.heap[w.heap.size]?=AF (.cells #[.int .i64 c,.slice ao s.body.length cap] 173 (0,0)):=by rw[O];exact Qy _ _
 have V:=Qq Z 0;have Y:=Qq Z 1;simp at V Y;have E:=BF hT R.size;have J:=λ(X:AC) (k:Xy No W X)=>XP ((h.no R).no k) (by have:=P.2.2;omega) (BF E k.size);have C:∀(X:AC) (U:AM),ban.top<=X.heap.size->Qv base X U [UInt8.ofNat c]->∀N,Qv base X N (numB s.body.length++s.body)->DJ Tryz.prog 97 #[.slice (AF ⟨X.heap.size,0,AI⟩) 2 2] (X.alloc (.cells #[U,N] 59)) λe B=>∃F,e=.returned F/\Kr B X.heap.size F s.bytes/\Xy No X B:=by intro X U aB h1 N h2;have aA:=P.2.2;have hn:=Qp (n:=s.body.length) (by omega);refine(Xv (Ko h1 h2) (by simp;omega)).mono ?_;rintro e B⟨F,rfl,o,k⟩;refine⟨F,rfl,?_,((Xy.refl No X).alloc _).then k⟩;have o:=o.mono (B':=X.heap.size) ((Xy.refl No X).alloc _).size;rw[B5,B5]at f;rw[f];simpa using o
 have j:=BX (A5 R J C E L);clear J C E R P f m hc L hT h;go_enter Tryz.func174,Tryz.ntmps174;go_upto_region 1 with fail;rw[<- O];clear O;have kd:Xy No W W.drew:=(Xy.refl _ _).drew;refine Pa (λB=>Xy No W B) [0,1,2,4,5] [6] [7,8,9] 3 (by kernel_rfl) (by kernel_rfl) (λ_ _ _ _ _ h=>h) kd ?_;iterate 5(refine Qk (v:=?_) rfl rfl rfl ?_ ?_;rotate_left;focus(
  intro B hS;have d0:=hS.cell V id;have d1:=hS.cell Y id;go_simp
  try with_reducible rfl))
 refine Qj ⟨?_,?_⟩
 ·refine Qx rfl rfl (λK p=>?_);go_simp;have A:=kd.alloc (.cells #[.int .u8 c] 5);refine p _ _ A ?_;clear p K;refine Qx rfl rfl (λK p=>?_);go_simp;refine(j.out.2.1 _ A).mono ?_;rintro e G⟨N,rfl,d,Q⟩;have i:=A.then Q;refine p _ _ i ?_;clear p K;have D:ban.top<=G.heap.size:=BF j.out.qd i.size;have I:=Vc W.drew c (by have:=j.out.re;omega);rw[show W.drew.heap.size=W.heap.size from rfl]at I;have f:=(I.keep Q (λ_ _ e=>e)).bytes (base:=base) (λ_=>j.out.qd);have z:=j.out.qc G _ D f _ (d.bytes (base:=base) (λ_=>BF j.out.qd A.size));obtain⟨o2,c2,g⟩:=d.form;obtain⟨H,m⟩:∃H,H=(numB s.body.length++s.body).length:=⟨_,rfl⟩;rw[<- m]at g;subst g;clear m;clear d f;refine Qh (Qu rfl (Qu rfl (Qu rfl (Qm ?_))));go_wp2_with fail;refine z.mono ?_;rintro e w3⟨v3,rfl,q,T⟩;go_wp2_with fail;go_ret;exact⟨_,rfl,q.mono (j.out.1.then i).size,(j.out.1.then i).then T⟩
 ·refine Qx rfl rfl (λK p=>?_);go_simp;refine(j.out.2.1 _ kd).mono ?_;rintro e G⟨N,rfl,d,Q⟩;have i:=kd.then Q;refine p _ _ i ?_;clear p K;refine Qh ?_;refine Qx rfl rfl (λK p=>?_);go_simp;have A:=i.alloc (.cells #[.int .u8 c] 5);refine p _ _ A ?_;clear p K;have D:ban.top<=G.heap.size:=BF j.out.qd i.size;have S:ban.top<=(G.alloc (.cells #[.int .u8 c] 5)).heap.size:=BF j.out.qd A.size;have f:=(Vc G c (by have:=j.out.re;omega)).bytes (base:=base) (λ_=>D);have M:=(d.bytes (base:=base) (λ_=>j.out.qd)).no ((Xy.refl No G).alloc (.cells #[.int .u8 c] 5));have z:=j.out.qc _ _ S f _ M;rw[FE]at z;obtain⟨o2,c2,g⟩:=d.form;obtain⟨H,m⟩:∃H,H=(numB s.body.length++s.body).length:=⟨_,rfl⟩;rw[<- m]at g;subst g;clear m;clear d f M;refine Qh (Qu rfl (Qu rfl (Qu rfl (Qm ?_))));go_wp2_with fail;refine z.mono ?_;rintro e w3⟨v3,rfl,q,T⟩;go_wp2_with fail;go_ret;exact⟨_,rfl,q.mono (by have:=(j.out.1.then A).size;rw[FE]at this;exact this),(j.out.1.then A).then T⟩
theorem Oz[bn:Ib]{x:Qc}(h:Qv base w v x.s.body)(C:x.Right)(hT:ban.top<=w.heap.size) :
  DJ Tryz.prog 124 #[.agg #[.int .u64 x.n,.int .i64 x.s.c,v]] w λe i=>∃E,e=.returned E/\Kr i w.heap.size E x.bytes/\Xy No w i:=by
 obtain⟨ao,cap,rfl⟩:=h.form;obtain⟨W,M⟩:∃W,W=w.alloc (.cells #[.int .u64 x.n,.int .i64 x.s.c,.slice ao x.s.body.length cap] 206):=⟨_,rfl⟩;have N:Xy No w W:=by rw[M];exact(Xy.refl _ _).alloc _
 have Q:W.heap[w.heap.size]?=AF (.cells #[.int .u64 x.n,.int .i64 x.s.c,.slice ao x.s.body.length cap] 206 (0,0)):=by rw[M];exact Qy _ _
 have V:=Qq Q 0;have Y:=Qq Q 1;have Z:=Qq Q 2;simp at V Y Z;have B:=BF hT N.size;have q:DJ Tryz.prog 98 #[.int .u64 x.n] W.drew _:=Jo 9 x.n (by have:=C.1;omega) (by have:=C.1;omega) W.drew;have J:=λ(X:AC) (k:Xy No W X)=>UZ ((h.no N).no k) C.2 (BF B k.size);have U:=Qp (n:=x.n) (by have:=C.1;omega);have S:x.s.bytes.length<=5000:=by obtain⟨c,_,_,_,e⟩:=Wa C.2 [];have:=C.2.2.2;have:=Qp (n:=x.s.body.length) (by omega);omega
 have p:∀(X:AC) (O:AM),Qv base X O (numB x.n)->∀P,Qv base X P x.s.bytes->DJ Tryz.prog 97 #[.slice (AF ⟨X.heap.size,0,AI⟩) 2 2] (X.alloc (.cells #[O,P] 59)) λe i=>∃E,e=.returned E/\Kr i X.heap.size E x.bytes/\Xy No X i:=by intro X O h1 P h2;refine(Xv (Ko h1 h2) (by simp;omega)).mono ?_;rintro e i⟨E,rfl,o,k⟩;refine⟨E,rfl,?_,((Xy.refl No X).alloc _).then k⟩;have o:=o.mono (B':=X.heap.size) ((Xy.refl No X).alloc _).size;simpa[Qc.bytes]using o
 have F:=BX (A4 N J p B);clear J p B N C hT h U S;go_enter Tryz.func124,Tryz.ntmps124;go_upto_region 1 with fail;rw[<- M];clear M;have kd:Xy No W W.drew:=(Xy.refl _ _).drew;refine Ql (λi=>Xy No W i) [0,1,3,4] [2,5] [6,7,8] (by kernel_rfl) (by kernel_rfl) (λ_ _ _ _ _ h=>h) kd ?_;iterate 4(refine Qk (v:=?_) rfl rfl rfl ?_ ?_;rotate_left;focus(
  intro i R;have d0:=R.cell V id;have d1:=R.cell Y id;have d2:=R.cell Z id;go_simp
  try with_reducible rfl))
 refine Qj ?_;refine Qx rfl rfl (λK I=>?_);go_simp;refine q.mono ?_;rintro e w1⟨O,rfl,d,k1⟩;have g:=kd.then k1;refine I _ _ g ?_;clear I K q;refine Qx rfl rfl (λK I=>?_);go_simp;refine(F.out.2.1 _ g).mono ?_;rintro e w2⟨P,rfl,f,k2⟩;have D:=g.then k2;refine I _ _ D ?_;clear I K;have T:=F.out.qc w2 _ ((d.keep k2 (λ_ _ e=>e)).bytes (base:=base) (λ_=>F.out.2.2.2)) _ (f.bytes (base:=base) (λ_=>BF F.out.2.2.2 g.size));obtain⟨o1,d1,z⟩:=d.form;obtain⟨G,j⟩:∃G,G=(numB x.n).length:=⟨_,rfl⟩;rw[<- j]at z;subst z;obtain⟨o2,d2,A⟩:=f.form;obtain⟨H,m⟩:∃H,H=x.s.bytes.length:=⟨_,rfl⟩;rw[<- m]at A;subst A;clear j m d f;refine Qh (Qu rfl (Qu rfl (Qu rfl (Qm ?_))));go_wp2_with fail;refine T.mono ?_;rintro e w3⟨v3,rfl,L,k3⟩;go_wp2_with fail;go_ret;exact⟨_,rfl,L.mono (F.out.1.then D).size,(F.out.1.then D).then k3⟩
end Go.Proofs.YtfdmbomlkpkegaaGreat
