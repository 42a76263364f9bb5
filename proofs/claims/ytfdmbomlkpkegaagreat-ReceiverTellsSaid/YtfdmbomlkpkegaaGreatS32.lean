/- Lemmas. -/
import Derived.Test.YtfdmbomlkpkegaaGreatS31
set_option maxRecDepth 100000
set_option maxHeartbeats 8000000
set_option linter.all false
set_option autoImplicit true
set_option relaxedAutoImplicit true
open Go renaming Calls->DJ,Value->AM,World->AC,setRow_heap->PD,wpList_store_row->PE
open Go.Lib renaming hid->BX
open Go.World renaming size_alloc->FE
open Nat renaming le_refl->BE,le_trans->BF
open Option renaming none->AI,some->AF
open UInt8 renaming ofNat->D7
namespace Go.Proofs.YtfdmbomlkpkegaaGreat
open Go Go.RowKit Go.Dr Go.Shelf
structure RR [bn:Ib](base:Nat)(w:AC)(p q:Nat)(lv:AM)(x:Qn)(width:Nat)(size safe:Int)(ss:List Jh)(ts:List Ji)(L:Xs)(j cnt:Nat)(d:Qr):Prop where
 mem:Jg base w p q lv x width size safe
 lg7:Sx j cnt (Zk ts) ss d x
 jle:j<=450
 tls:Jc width ts L
 okL:L.Ok width
 few:∀r∈ts,r.bytes.length<=1000
section
variable [bn:Ib]{base:Nat}{w w':AC}{p q width j cnt:Nat}{lv:AM}{x:Qn}{size safe:Int}{ss:List Jh}{ts:List Ji}{L:Xs}{d:Qr}
theorem RR.no(h:RR base w p q lv x width size safe ss ts L j cnt d)(k:Xy No w w'):RR base w' p q lv x width size safe ss ts L j cnt d:=⟨h.mem.no k,h.lg7,h.jle,h.tls,h.okL,h.few⟩
theorem RR.many(h:RR base w p q lv x width size safe ss ts L j cnt d):ts.length<=900:=by
 have f:=h.lg7.good.next;have g:=h.lg7.next;have i:=h.jle;have e:(Zk ts).length=ts.length:=by simp[Zk]
 omega
theorem RR.told(h:RR base w p q lv x width size safe ss ts L j cnt d)(z:base<=w.heap.size)(o:ban.top<=w.heap.size) :
  DJ Tryz.prog 74 #[.pointer (AF ⟨p,0,AI⟩),.int .i64 (-1)] w λe w'=>∃cs,e=.returned (.tuple #[.agg cs,.int .i64 0])/\ZP base w' cs L/\Xy No w w':=by
 have C:=h.many;have f:=h.lg7.good;have i:=f.len;have m:=f.sum;have B:=h.jle;refine(K6 h.mem z o (by omega) (by omega) f.map (f.segsOk (by omega)) h.lg7.recs h.okL.wide (by omega) h.few h.tls.can (-1) (by decide)).mono ?_;rintro e w'⟨cs,n,g,k⟩;refine⟨cs,n,?_,k⟩;have A:Ra (-1) ts.length=ts.length:=rfl;rw[A,List.take_length]at g;unfold ZP at g⊢;rw[h.tls.inc,h.tls.now,h.tls.recs];exact g
theorem RR.app(h:RR base w p q lv x width size safe ss ts L j cnt d)(m:base<=w.heap.size)(k:ban.top<=w.heap.size)(z:Qv base w pv r)(A:r.length<=1048576) :
  DJ Tryz.prog 96 #[.pointer (AF ⟨q,0,AI⟩),.int .i64 size,pv] w (U5 base w q lv (max (Zz 0 ss) 1) (x.append (Uj (Ku size ss)).n (appB (Ku size ss) r))):=by
 have f:=h.lg7.good;have g:=f.len;have i:=f.sum;have C:=h.jle;have o:=f.next;exact QQ h.mem.rdisk m k (by omega) (by omega) f.map (f.segsOk (by omega)) (λs B=>by have:=f.pos s B;omega) size z A (by omega)
def Ho [bn:Ib](base:Nat)(w:AC)(p q:Nat)(lv:AM)(x':Qn)(width:Nat)(size safe:Int)(w':AC):Prop :=
 ∃f,Jg base w' p q f x' width size safe/\Xy (·=q) w w'/\∀b,f.ownBlock=AF b->lv.ownBlock=AF b\/w.heap.size<=b
theorem RR.wrote{g i:AC}{f:AM}{x':Qn}(h:RR base w p q lv x width size safe ss ts L j cnt d)(k:Xy No w g)(z:Zs base i q f x')(m:Xy (·=q) g i)(o:∀b,f.ownBlock=AF b->lv.ownBlock=AF b\/g.heap.size<=b):Ho base w p q lv x' width size safe i :=
 ⟨f,⟨m.heap (k.heap h.mem.blk id) (λe=>h.mem.ne e.symm),z,h.mem.pb⟩,k.no.trans m (λ_ _ e=>e),λb n=>(o b n).imp id (λe=>BF k.size e)⟩
end
theorem XC(v:AM)(a:Int)(e:Nat)(h:a<0\/15<a\/2305843009213693952<=e) :
  DJ Tryz.prog 69 #[v,.int .i64 a,.int .u64 e] w λr w'=>r=.returned (.int .i64 1)/\w'=w:=by
 by_cases f:a<0
 ·go_enter Tryz.func69,Tryz.ntmps69;go_wp2;go_ret;exact⟨rfl,rfl⟩
 ·by_cases g:15<a
  ·go_enter Tryz.func69,Tryz.ntmps69;go_wp2;go_ret;exact⟨rfl,rfl⟩
  ·have i:((2305843009213693952:Int)<=(e:Int))=True:=eq_true (by omega);go_enter Tryz.func69,Tryz.ntmps69;go_wp2;go_ret;exact⟨rfl,rfl⟩
theorem Fs[bn:Ib](h:RR base w p q lv x width size safe ss ts L j cnt d)(a e:Nat)(ha:a<16)(he:e<2305843009213693952)(hb:base<=w.heap.size)(hT:ban.top<=w.heap.size)(aP:x.append (Uj (Ku size ss)).n (appB (Ku size ss) (Ji.floor a e).bytes)=(x',c)) :
  DJ Tryz.prog 69 #[.pointer (AF ⟨p,0,AI⟩),.int .i64 a,.int .u64 e] w λr w'=>(e<=L.floor a->r=.returned (.int .i64 9)/\Xy No w w')/\(¬e<=L.floor a->r=.returned (.int .i64 c)/\Ho base w p q lv x' width size safe w'):=by
 obtain⟨g,hg,aZ,ab,aU⟩:=h.okL.at ha;have aN:L.now[a]?=AF (g.floor,g.now):=by unfold Xs.now;rw[List.getElem?_map,hg];rfl
 have B:=h.told hb hT;have B:DJ Tryz.prog 74 #[.pointer (AF ⟨p,0,AI⟩),.int .i64 (-1)] w λe w'=>∃cs,e=.returned (.tuple #[.agg cs,.int .i64 0])/\(cs.size=66/\cs.all (·.oneCell')=true/\(Tryz.prog.info? 168).map (·.size)=AF cs.size/\cs[1+a]?=AF (.int .u64 g.floor))/\Xy No w w':=by refine B.mono ?_;rintro e w'⟨cs,rfl,hs,k⟩;exact⟨_,rfl,⟨hs.size,hs.all,hs.info,(hs.ags a _ aN).1⟩,k⟩
 have aS:((2305843009213693952:Int)<=(e:Int))=False:=eq_false (by omega);have ae:(a:Int)<16:=by omega
 have af:IntKind.u64.wrap (a:Int)=(a:Int):=by rw[IntKind.wrap_u64];omega
 have aC:=Gz a e ha he;rw[aU];have cp:=λi=>Qq h.mem.blk i;have aI:=cp 0;have aJ:=cp 2;simp at aI aJ;have S:=BX (A7 h hb hT aP aC ha he);clear h hb hT aP aC ha he hg aZ ab aU aN cp;obtain⟨fl,aT⟩:∃fl,fl=g.floor:=⟨_,rfl⟩;rw[<- aT]at B⊢;clear aT;by_cases aK:e<=fl
 ·have aB:(e:Int)<=(fl:Int):=by omega
  have aA:(e<=fl)=True:=eq_true aK;clear aK;go_enter Tryz.func69,Tryz.ntmps69;go_upto_region 4 with(first
   | (go_at_call 74;refine B.mono ?_;rintro e H ⟨cs,rfl,⟨aD,P,J,Y⟩,k2⟩)
   | (refine PE rfl 168 _ _ rfl H.heap.size cs rfl rfl 168 Tryz.zeroCells168 (Qy _ _) J (by rw[aD];rfl) P ?_))
  have aH:=PD _ H.heap.size _ cs _ _ (Qy H (.cells Tryz.zeroCells168 168));have k3:Xy No H ((H.alloc (.cells Tryz.zeroCells168 168)).setRow H.heap.size cs):=((Xy.refl No H).alloc _).trans (Zi _ H.heap.size cs) (λc hc e=>by have e:c=H.heap.size:=e;omega);generalize (H.alloc (.cells Tryz.zeroCells168 168)).setRow H.heap.size cs=Q at *;have d0:=Qq aH (1+a);rw[Y]at d0;have R:=k2.then k3;clear aH Y J P aD B k2 k3;go_wp2_with fail;go_ret;exact⟨λ_=>⟨rfl,R⟩,λh=>absurd aA (by simp[h])⟩
 ·have aB:¬(e:Int)<=(fl:Int):=by omega
  have aA:(e<=fl)=False:=eq_false aK;clear aK;go_enter Tryz.func69,Tryz.ntmps69;go_upto_region 4 with(first
   | (go_at_call 74;refine B.mono ?_;rintro e H ⟨cs,rfl,⟨aD,P,J,Y⟩,k2⟩)
   | (refine PE rfl 168 _ _ rfl H.heap.size cs rfl rfl 168 Tryz.zeroCells168 (Qy _ _) J (by rw[aD];rfl) P ?_))
  have aH:=PD _ H.heap.size _ cs _ _ (Qy H (.cells Tryz.zeroCells168 168));have k3:Xy No H ((H.alloc (.cells Tryz.zeroCells168 168)).setRow H.heap.size cs):=((Xy.refl No H).alloc _).trans (Zi _ H.heap.size cs) (λc hc e=>by have e:c=H.heap.size:=e;omega);generalize (H.alloc (.cells Tryz.zeroCells168 168)).setRow H.heap.size cs=Q at *;have d0:=Qq aH (1+a);rw[Y]at d0;have R:=k2.then k3;clear aH Y J P aD B k2 k3;have aO:=BF S.out.qc R.size;have aV:=λ(X:AC)=>Jo 9 a (by have:=S.out.qf;omega) (by have:=S.out.qf;omega) X;have aW:=λ(X:AC)=>Jo 9 e (by have:=S.out.rg;omega) (by have:=S.out.rg;omega) X;have aI:=R.cell aI id;have aJ:=R.cell aJ id;have G:=BX (A4 R aO aV aW);clear R aO aV aW;go_upto_region 6 with fail;have kd:Xy No Q Q.drew:=(Xy.refl _ _).drew;have aX:¬p=q:=λe=>S.out.1.mem.ne e.symm;obtain⟨V,Z⟩:∃V,V=e:=⟨_,rfl⟩;have aM:∀(X:AC) (v0 v1 v2:AM),Qv base X v0 [D7 2]->Qv base X v1 (numB a)->Qv base X v2 (numB V)->DJ Tryz.prog 97 #[.slice (AF ⟨X.heap.size,0,AI⟩) 3 3] (X.alloc (.cells #[v0,v1,v2] 59)) λe w'=>∃v',e=.returned v'/\Kr w' X.heap.size v' (Ji.floor a V).bytes/\Xy No X w':=by
   intro X v0 v1 v2 h0 h1 h2;rw[Z]at h2⊢;have aC:=S.out.qe;have aR:[[D7 2],numB a,numB e].flatten=(Ji.floor a e).bytes:=by simp[Ji.bytes]
   refine(Xv (GT h0 h1 h2) (by rw[aR];omega)).mono ?_;rintro e w'⟨v',rfl,o,k⟩;rw[aR]at o;exact⟨v',rfl,o.mono (B':=X.heap.size) ((Xy.refl No X).alloc _).size,((Xy.refl No X).alloc _).then k⟩
  have F:∀(X:AC) (v:AM),Xy No Q X->Qv base X v (Ji.floor a V).bytes->DJ Tryz.prog 96 #[.pointer (AF ⟨q,0,AI⟩),.int .i64 size,v] X λe w'=>∃(nx:Int) (aL:AM),e=.returned (.tuple #[.int .u64 nx,.int .i64 c])/\Zs base w' q aL x'/\Xy (·=q) X w'/\∀b,aL.ownBlock=AF b->lv.ownBlock=AF b\/X.heap.size<=b:=by intro X v kX hv;rw[Z]at hv;have hR:=S.out.1.no (G.out.1.then kX);have:=hR.app (BF S.out.2.1 (G.out.1.then kX).size) (BF G.out.2.1 kX.size) hv (by have:=S.out.qe;omega);rw[S.out.qd]at this;exact this.mono (λe w' ⟨aL,h1,h2,h3,h4⟩=>⟨_,aL,h1,h2,h3,h4⟩)
  rw[<- Z]at aS aB⊢;have HF:=BX (A2 aM F);rw[<- Z]at G;clear aM F Z aS aB d0;go_cut [9,10] (λv9 ad wx=>ad=.int .i64 c/\Ho base w p q lv x' width size safe wx);case first =>
   have ac:Xy (·=q) Q Q.drew:=kd.no;refine ZM (λw'=>Xy (·=q) Q w') [(AF 8,[0,1,2,3,4,5,6,7,9,10,12],[11,13]),(AI,[],[14,15,16,17]),(AI,[18,19],[20,21])] (by kernel_rfl) (by kernel_rfl) (λ_ _ _ _ _ h=>h) ac (QG ?_);iterate 11(refine Qk (v:=?_) rfl rfl rfl ?_ ?_;rotate_left;focus(
    intro w' hS;have d1:=hS.cell aI aX;have d2:=hS.cell aJ aX;go_simp
    try with_reducible rfl))
   refine Qj ⟨?_,?_⟩
   ·skip
    refine Qx rfl rfl (λK f=>?_);go_simp;have U:=kd.alloc (.cells #[.int .u8 2] 5);refine f _ _ U.no ?_;clear f K;refine Qx rfl rfl (λK f=>?_);go_simp;refine(G.out.qc (Q.drew.alloc (.cells #[.int .u8 2] 5))).mono ?_;rintro e w4⟨v4,rfl,A,k4⟩;have I:=U.then k4;refine f _ _ I.no ?_;clear f K;refine Qx rfl rfl (λK f=>?_);go_simp;refine(G.out.2.2.2 w4).mono ?_;rintro e w5⟨v5,rfl,m,k5⟩;have E:=I.then k5;refine f _ _ E.no ?_;clear f K;have aQ:=Vc Q.drew 2 (by decide);rw[show Q.drew.heap.size=Q.heap.size from rfl]at aQ;have W:=((aQ.keep k4 (λ_ _ e=>e)).keep k5 (λ_ _ e=>e)).bytes (base:=base) (λ_=>G.out.2.1);have aE:=(A.keep k5 (λ_ _ e=>e)).bytes (base:=base) (λ_=>BF G.out.2.1 U.size);have aF:=m.bytes (base:=base) (λ_=>BF G.out.2.1 I.size);refine Qh ?_;obtain⟨o4,c4,e4⟩:=A.form;obtain⟨l4,M⟩:∃l4,l4=(numB a).length:=⟨_,rfl⟩;rw[<- M]at e4;subst e4;obtain⟨o5,c5,e5⟩:=m.form;obtain⟨l5,N⟩:∃l5,l5=(numB V).length:=⟨_,rfl⟩;rw[<- N]at e5;subst e5;clear M N A m;have T:=HF.out.1 w5 _ _ _ W aE aF;refine Jz (Qj ?_);refine Qx rfl rfl (λK f=>?_);go_simp;have kS:=E.alloc (.cells #[.slice (AF ⟨Q.heap.size,0,AI⟩) 1 1,.slice o4 l4 c4,.slice o5 l5 c5] 59);refine f _ _ kS.no ?_;clear f K;refine Qx rfl rfl (λK f=>?_);go_simp;refine T.mono ?_;rintro e w6⟨v6,rfl,z,k6⟩;have C:=E.then k6;refine f _ _ C.no ?_;clear f K;have F:=HF.out.2 w6 _ C (z.bytes (base:=base) (λ_=>BF G.out.2.1 E.size));obtain⟨o6,c6,e6⟩:=z.form;obtain⟨l6,O⟩:∃l6,l6=(Ji.floor a V).bytes.length:=⟨_,rfl⟩;rw[<- O]at e6;subst e6;clear O z;refine Qx rfl rfl (λK f=>?_);go_simp;refine F.mono ?_;rintro e w7⟨nx,aY,rfl,aG,k7,o7⟩;have D:Xy (·=q) Q w7:=C.no.trans k7 (λ_ _ e=>e);refine f _ _ D ?_;clear f K;refine Qx rfl rfl (λK f=>?_);go_simp;refine f _ _ D ?_;clear f K;refine Qh (Jz ?_);iterate 2(refine Qk (v:=?_) rfl rfl rfl ?_ ?_;rotate_left;focus(
     intro w' hS;go_simp
     try with_reducible rfl))
    refine Qj ?_;refine Qx rfl rfl (λK f=>?_);go_simp;refine f _ _ D ?_;clear f K;refine Qx rfl rfl (λK f=>?_);go_simp;refine f _ _ D ?_;clear f K;refine Qh (Mv ?_);go_wp2_with fail;go_meet;exact⟨rfl,S.out.1.wrote (G.out.1.then C) aG k7 o7⟩
   ·skip
    refine Qx rfl rfl (λK f=>?_);go_simp;refine(G.out.qc Q.drew).mono ?_;rintro e w4⟨v4,rfl,A,k4⟩;have I:=kd.then k4;refine f _ _ I.no ?_;clear f K;refine Qh ⟨?_,?_⟩
    ·skip
     refine Qx rfl rfl (λK f=>?_);go_simp;have U:=I.alloc (.cells #[.int .u8 2] 5);refine f _ _ U.no ?_;clear f K;refine Qx rfl rfl (λK f=>?_);go_simp;refine(G.out.2.2.2 (w4.alloc (.cells #[.int .u8 2] 5))).mono ?_;rintro e w5⟨v5,rfl,m,k5⟩;have E:=U.then k5;refine f _ _ E.no ?_;clear f K;have W:=((Vc w4 2 (by decide)).keep k5 (λ_ _ e=>e)).bytes (base:=base) (λ_=>BF G.out.2.1 I.size);have aE:=((A.keep ((Xy.refl No w4).alloc (.cells #[.int .u8 2] 5)) (λ_ _ e=>e)).keep k5 (λ_ _ e=>e)).bytes (base:=base) (λ_=>G.out.2.1);have aF:=m.bytes (base:=base) (λ_=>BF G.out.2.1 U.size);refine Qh ?_;obtain⟨o4,c4,e4⟩:=A.form;obtain⟨l4,M⟩:∃l4,l4=(numB a).length:=⟨_,rfl⟩;rw[<- M]at e4;subst e4;obtain⟨o5,c5,e5⟩:=m.form;obtain⟨l5,N⟩:∃l5,l5=(numB V).length:=⟨_,rfl⟩;rw[<- N]at e5;subst e5;clear M N A m;have T:=HF.out.1 w5 _ _ _ W aE aF;refine Jz (Qj ?_);refine Qx rfl rfl (λK f=>?_);go_simp;have kS:=E.alloc (.cells #[.slice (AF ⟨w4.heap.size,0,AI⟩) 1 1,.slice o4 l4 c4,.slice o5 l5 c5] 59);refine f _ _ kS.no ?_;clear f K;refine Qx rfl rfl (λK f=>?_);go_simp;refine T.mono ?_;rintro e w6⟨v6,rfl,z,k6⟩;have C:=E.then k6;refine f _ _ C.no ?_;clear f K;have F:=HF.out.2 w6 _ C (z.bytes (base:=base) (λ_=>BF G.out.2.1 E.size));obtain⟨o6,c6,e6⟩:=z.form;obtain⟨l6,O⟩:∃l6,l6=(Ji.floor a V).bytes.length:=⟨_,rfl⟩;rw[<- O]at e6;subst e6;clear O z;refine Qx rfl rfl (λK f=>?_);go_simp;refine F.mono ?_;rintro e w7⟨nx,aY,rfl,aG,k7,o7⟩;have D:Xy (·=q) Q w7:=C.no.trans k7 (λ_ _ e=>e);refine f _ _ D ?_;clear f K;refine Qx rfl rfl (λK f=>?_);go_simp;refine f _ _ D ?_;clear f K;refine Qh (Jz ?_);iterate 2(refine Qk (v:=?_) rfl rfl rfl ?_ ?_;rotate_left;focus(
      intro w' hS;go_simp
      try with_reducible rfl))
     refine Qj ?_;refine Qx rfl rfl (λK f=>?_);go_simp;refine f _ _ D ?_;clear f K;refine Qx rfl rfl (λK f=>?_);go_simp;refine f _ _ D ?_;clear f K;refine Qh (Mv ?_);go_wp2_with fail;go_meet;exact⟨rfl,S.out.1.wrote (G.out.1.then C) aG k7 o7⟩
    ·skip
     refine Qx rfl rfl (λK f=>?_);go_simp;refine(G.out.2.2.2 w4).mono ?_;rintro e w5⟨v5,rfl,m,k5⟩;have E:=I.then k5;refine f _ _ E.no ?_;clear f K;refine Qh ?_;refine Qx rfl rfl (λK f=>?_);go_simp;have U:=E.alloc (.cells #[.int .u8 2] 5);refine f _ _ U.no ?_;clear f K;have W:=(Vc w5 2 (by decide)).bytes (base:=base) (λ_=>BF G.out.2.1 E.size);have aE:=((A.keep k5 (λ_ _ e=>e)).keep ((Xy.refl No w5).alloc (.cells #[.int .u8 2] 5)) (λ_ _ e=>e)).bytes (base:=base) (λ_=>G.out.2.1);have aF:=(m.keep ((Xy.refl No w5).alloc (.cells #[.int .u8 2] 5)) (λ_ _ e=>e)).bytes (base:=base) (λ_=>BF G.out.2.1 I.size);refine Qh ?_;obtain⟨o4,c4,e4⟩:=A.form;obtain⟨l4,M⟩:∃l4,l4=(numB a).length:=⟨_,rfl⟩;rw[<- M]at e4;subst e4;obtain⟨o5,c5,e5⟩:=m.form;obtain⟨l5,N⟩:∃l5,l5=(numB V).length:=⟨_,rfl⟩;rw[<- N]at e5;subst e5;clear M N A m;have T:=HF.out.1 (w5.alloc (.cells #[.int .u8 2] 5)) _ _ _ W aE aF;rw[FE]at T;refine Jz (Qj ?_);refine Qx rfl rfl (λK f=>?_);go_simp;have kS:=U.alloc (.cells #[.slice (AF ⟨w5.heap.size,0,AI⟩) 1 1,.slice o4 l4 c4,.slice o5 l5 c5] 59);refine f _ _ kS.no ?_;clear f K;refine Qx rfl rfl (λK f=>?_);go_simp;refine T.mono ?_;rintro e w6⟨v6,rfl,z,k6⟩;have C:=U.then k6;refine f _ _ C.no ?_;clear f K;have F:=HF.out.2 w6 _ C (z.bytes (base:=base) (λ_=>(by have:=BF G.out.2.1 U.size;rw[FE]at this;exact this)));obtain⟨o6,c6,e6⟩:=z.form;obtain⟨l6,O⟩:∃l6,l6=(Ji.floor a V).bytes.length:=⟨_,rfl⟩;rw[<- O]at e6;subst e6;clear O z;refine Qx rfl rfl (λK f=>?_);go_simp;refine F.mono ?_;rintro e w7⟨nx,aY,rfl,aG,k7,o7⟩;have D:Xy (·=q) Q w7:=C.no.trans k7 (λ_ _ e=>e);refine f _ _ D ?_;clear f K;refine Qx rfl rfl (λK f=>?_);go_simp;refine f _ _ D ?_;clear f K;refine Qh (Jz ?_);iterate 2(refine Qk (v:=?_) rfl rfl rfl ?_ ?_;rotate_left;focus(
      intro w' hS;go_simp
      try with_reducible rfl))
     refine Qj ?_;refine Qx rfl rfl (λK f=>?_);go_simp;refine f _ _ D ?_;clear f K;refine Qx rfl rfl (λK f=>?_);go_simp;refine f _ _ D ?_;clear f K;refine Qh (Mv ?_);go_wp2_with fail;go_meet;exact⟨rfl,S.out.1.wrote (G.out.1.then C) aG k7 o7⟩
  case rest =>
   obtain⟨rfl,hw⟩:=hcut
   rename AC=>W7
   go_wp2_with fail;go_ret;exact⟨λh=>(aA.mp h).elim,λ_=>⟨rfl,hw⟩⟩
def MH [bn:Ib](base:Nat)(w:AC)(q:Nat)(lv:AM)(x':Qn)(width n:Nat)(size c:Int)(e:Ending)(w':AC):Prop :=
 ∃v,e=.returned (.tuple #[v,.int .i64 c])/\Xy (·=q) w w'/\((c=0/\∃(p:Nat) (f:AM),v=.pointer (AF ⟨p,0,AI⟩)/\w.heap.size<=p/\Jg base w' p q f x'.sync width size n/\∀b,f.ownBlock=AF b->lv.ownBlock=AF b\/w.heap.size<=b)\/(c=5/\v=.pointer AI))
theorem XN[bn:Ib](h:Zs base w q lv x)(h7:Sx j cnt (Zk ts) ss d x)(hj:j<=449)(z:∀(k:Nat) r,ts[k]?=AF r->(told width (ts.take k)).can r)(aL:∀r∈ts,r.bytes.length<=1000)(m:(told width ts).inc<=1000000)(hw:1<=width/\width<=1024)(hz:1<=size)(V:base<=w.heap.size)(hT:ban.top<=w.heap.size)(F:x.append (Uj (Ku size ss)).n (appB (Ku size ss) (Ji.inc ((told width ts).inc+1)).bytes)=(x',c))(hc:(c=0/\Sx (j+1) cnt (Zk (ts++[.inc ((told width ts).inc+1)])) ss' d' x')\/c=5) :
  DJ Tryz.prog 50 #[.pointer (AF ⟨q,0,AI⟩),.int .u64 width,.int .i64 size] w (MH base w q lv x' width (ts.length+1) size c):=by
 have ac:¬(width:Int)<1:=by omega
 have ad:¬(1024:Int)<(width:Int):=by omega
 have ae:¬size<1:=by omega
 obtain⟨P,E⟩:∃P,P=w.alloc (.cells #[.pointer (AF ⟨q,0,AI⟩),.int .u64 width,.int .i64 size,.int .i64 0] 157):=⟨_,rfl⟩;have aK:P.heap[w.heap.size]?=AF (.cells #[.pointer (AF ⟨q,0,AI⟩),.int .u64 width,.int .i64 size,.int .i64 0] 157 (0,0)):=by rw[E];exact Qy _ _
 have k1:Xy No w P:=by rw[E];exact(Xy.refl _ _).alloc _
 obtain⟨L,hL⟩:∃L,L=told width ts:=⟨_,rfl⟩;have aQ:Jc width ts (told width ts):=⟨rfl,rfl,rfl,z⟩;have hR:RR base P w.heap.size q lv x width size 0 ss ts L j cnt d:=⟨⟨aK,h.no k1,V⟩,h7,by omega,by rw[hL];exact aQ,by rw[hL];exact Gb hw z,aL⟩;rw[<- hL]at m F hc;clear hL aQ;obtain⟨n,hn⟩:∃n,n=L.inc:=⟨_,rfl⟩;rw[<- hn]at m F hc;have W:=BF V k1.size;have T:=BF hT k1.size;have f:=hR.told W T;have f:DJ Tryz.prog 74 #[.pointer (AF ⟨w.heap.size,0,AI⟩),.int .i64 (-1)] P λe w'=>∃cs,e=.returned (.tuple #[.agg cs,.int .i64 0])/\(cs.size=66/\cs.all (·.oneCell')=true/\(Tryz.prog.info? 168).map (·.size)=AF cs.size/\cs[0]?=AF (.int .u64 n))/\Xy No P w':=by refine f.mono ?_;rintro e w'⟨cs,rfl,hs,k⟩;exact⟨_,rfl,⟨hs.size,hs.all,hs.info,by rw[hn];exact hs.inc⟩,k⟩
 have ab:IntKind.u64.wrap ((n:Int)+1)=((n+1:Nat):Int):=by rw[wraps_u64 _ (by omega) (by omega)];rfl
 have aI:=Qp (n:=n+1) (by omega);have o:(Ji.inc (n+1)).bytes.length<=1000:=by simp[Ji.bytes];omega
 have i:=BX (A11 hR k1 W T F hc o m V hj aI);clear hR aK k1 W T F hc o m V hj hz hw h h7 hT aI hn z aL;go_enter Tryz.func50,Tryz.ntmps50;go_upto_region 4 with fail;rw[<- E];clear E;go_upto_region 5 with(first
  | (go_at_call 74;refine f.mono ?_;rintro e D ⟨cs,rfl,⟨aP,M,J,aF⟩,k2⟩)
  | (refine PE rfl 168 _ _ rfl D.heap.size cs rfl rfl 168 Tryz.zeroCells168 (Qy _ _) J (by rw[aP];rfl) M ?_))
 have aU:=PD _ D.heap.size _ cs _ _ (Qy D (.cells Tryz.zeroCells168 168));have k3:Xy No D ((D.alloc (.cells Tryz.zeroCells168 168)).setRow D.heap.size cs):=((Xy.refl No D).alloc _).trans (Zi _ D.heap.size cs) (λc hc e=>by have e:c=D.heap.size:=e;omega);generalize (D.alloc (.cells Tryz.zeroCells168 168)).setRow D.heap.size cs=W3 at *;have d0:=Qq aU 0;rw[aF]at d0;have G:=k2.then k3;clear aU aF J M aP f k2 k3;have aC:=BF i.out.qc G.size;have aB:=BF i.out.qd G.size;have aE:=Vc W3 1 (by decide);have aA:=(Xy.refl No W3).alloc (.cells #[.int .u8 1] 5);have K:DJ Tryz.prog 98 #[.int .u64 (n+1:Nat)] (W3.alloc (.cells #[.int .u8 1] 5)) _:=Jo 9 (n+1) (by have:=i.out.qh;omega) (by have:=i.out.qh;omega) (W3.alloc (.cells #[.int .u8 1] 5));have d0:=aA.cell d0 id;have O:=BX (A5 aE aA aC aB G);clear aE aA aC aB G;go_upto_region 7 with fail;go_wp2_with fail;refine K.mono ?_;rintro e w4⟨v4,rfl,B,k4⟩;obtain⟨o4,c4,e4⟩:=B.form;have aD:=B.bytes (base:=base) (λ_=>BF O.out.qd O.out.2.1.size);have I:=(O.out.1.keep k4 (λ_ _ e=>e)).bytes (base:=base) (λ_=>O.out.qd);have aM:=Ko I aD;have Y:=Xv aM (by have:=i.out.rk;simp;omega);have he:[[D7 1],numB (n+1)].flatten=(Ji.inc (n+1)).bytes:=by simp[Ji.bytes]
 rw[he]at Y;obtain⟨l4,aG⟩:∃l4,l4=(numB (n+1)).length:=⟨_,rfl⟩;rw[<- aG]at e4;subst e4;have kA:=(Xy.refl No w4).alloc (.cells #[.slice (AF ⟨W3.heap.size,0,AI⟩) 1 1,.slice o4 l4 c4] 59);have aV:=(O.out.2.1.then k4).then kA;have HC:=BX aV;clear K B k4 aD I aM he kA aV aG;go_wp2_with fail;refine Y.mono ?_;rintro e w5⟨v5,rfl,C,k5⟩;have A:=(O.out.2.2.2.2.then HC.out).then k5;have X:=BF i.out.qc A.size;have U:=BF i.out.qd A.size;have aR:=C.bytes (base:=base) (λ_=>BF O.out.qd HC.out.size);have R:=i.out.1.no A;have g:=R.app X U aR (by have:=i.out.qg;omega);rw[i.out.qe]at g;have g:DJ Tryz.prog 96 #[.pointer (AF ⟨q,0,AI⟩),.int .i64 size,v5] w5 λe w'=>∃(nx:Int) (H:AM),e=.returned (.tuple #[.int .u64 nx,.int .i64 c])/\Zs base w' q H x'/\Xy (·=q) w5 w'/\∀b,H.ownBlock=AF b->lv.ownBlock=AF b\/w5.heap.size<=b:=g.mono (λe w' ⟨H,h1,h2,h3,h4⟩=>⟨_,H,h1,h2,h3,h4⟩);obtain⟨o5,c5,e5⟩:=C.form;obtain⟨l5,aH⟩:∃l5,l5=(Ji.inc (n+1)).bytes.length:=⟨_,rfl⟩;rw[<- aH]at e5;subst e5;have HD:=BX (A4 R X U A);clear Y C k5 A X U aR R d0 aH;go_upto_region 8 with(go_at_call 96;refine g.mono ?_;rintro e w6 ⟨nx,af,rfl,aT,k6,o6⟩);have aS:=HD.out.1.wrote (Xy.refl _ _) aT k6 o6;have HW:=BX aS;have HK:=BX k6;clear aS aT o6 g k6;rcases i.out.qf with⟨rfl,Q⟩|rfl
 ·obtain⟨aZ,S,_,aJ⟩:=HW.out;have hg:=Q.good;have o:=hg.len;have aN:=hg.sum;have hj:=i.out.qj;have N:(Qw ss').length=ts.length+1:=by rw[Q.recs];simp[Zk]
  have Z:=i.out.1.many;have aO:=Pv S (BF HD.out.2.1 HK.out.size) (BF HD.out.qc HK.out.size) (by omega) (by omega) hg.map (hg.segsOk (by omega)) (by omega);rw[N]at aO;have HE:=BX (A2 aJ S.pb);clear S aJ hg o aN hj N Z Q;go_wp2_with(go_at_call 70;refine aO.mono ?_;rintro e w7 ⟨⟨v7,rfl⟩,aW,k7⟩);go_ret2;have aY:Xy (·=q) w w6:=(i.out.2.1.then HD.out.2.2.2).no.trans HK.out (λ_ _ e=>e);have aX:=(i.out.2.1.then HD.out.2.2.2).size;exact⟨_,rfl,aY.trans k7 (λb V e=>by
   rcases e with e|e
   ·omega
   ·exact e),.inl ⟨rfl,w.heap.size,aZ,rfl,BE _,aW,λb V=>(HE.out.1 b V).imp id (λe=>BF aX e)⟩⟩
 ·go_wp2_with fail;go_ret2;exact⟨_,rfl,(i.out.2.1.then HD.out.2.2.2).no.trans HK.out (λ_ _ e=>e),.inr ⟨rfl,rfl⟩⟩
theorem MQ[bn:Ib](z:Qv base w k a)(A:Qv base w m b)(B:Qv base w n c)(C:Qv base w o d) :
  Zb base (w.alloc (.cells #[k,m,n,o] 59)) (.slice (AF ⟨w.heap.size,0,AI⟩) 4 4) [a,b,c,d]:=by
 have h:Xy No w (w.alloc (.cells #[k,m,n,o] 59)):=(Xy.refl _ _).alloc _;exact Zb.of_block (Qy w _) [a,b,c,d] rfl (by simp[maxLen]) (λi u l f g=>by
  match i,f,g with
  | 0,f,g=>simp at f g;subst f g;exact z.no h
  | 1,f,g=>simp at f g;subst f g;exact A.no h
  | 2,f,g=>simp at f g;subst f g;exact B.no h
  | 3,f,g=>simp at f g;subst f g;exact C.no h)
theorem K5(v:AM)(a:Int)(b:Nat)(iv:AM)(h:a<0\/15<a\/2305843009213693952<=b) :
  DJ Tryz.prog 72 #[v,.int .i64 a,.int .u64 b,iv] w λr w'=>r=.returned (.tuple #[.slice AI 0 0,.int .i64 1])/\w'=w:=by
 by_cases f:a<0
 ·go_enter Tryz.func72,Tryz.ntmps72;go_wp2;go_ret2;exact⟨rfl,rfl⟩
 ·by_cases g:15<a
  ·go_enter Tryz.func72,Tryz.ntmps72;go_wp2;go_ret2;exact⟨rfl,rfl⟩
  ·have i:((2305843009213693952:Int)<=(b:Int))=True:=eq_true (by omega);go_enter Tryz.func72,Tryz.ntmps72;go_wp2;go_ret2;exact⟨rfl,rfl⟩
theorem XM[bn:Ib]{a b:Nat}(ha:a<16)(Y:b<2305843009213693952)(h:Gs base w iv l)(hl:l.length<=64)(M:∀x∈l,x.s.body.length<=1073741824)(Z:Yv b l=false) :
  DJ Tryz.prog 72 #[v,.int .i64 a,.int .u64 b,iv] w λr w'=>r=.returned (.tuple #[.slice AI 0 0,.int .i64 1])/\Xy No w w':=by
 obtain⟨io,ic,rfl,_,_⟩:=Us.form h;have aB:(a:Int)<16:=by omega
 have aC:((2305843009213693952:Int)<=(b:Int))=False:=eq_false (by omega);have aA:(l.length:Int)<=64:=by omega
 have N:¬∀x∈l,x.Right:=λe=>by
  have:=(Jm b l).2 ⟨e,Y⟩;rw[Z]at this;cases this
 have S:=BX (A3 h M N);clear h M N Z hl ha Y;go_enter Tryz.func72,Tryz.ntmps72;go_wp2_with fail;go_loopw [35] (λJ wr=>∃k,J=.int .i64 (k:Nat)/\k<=l.length/\(∀x∈l.take k,x.Right)/\Xy No w wr) (λJ _=>l.length-(intOf J).toNat);case atStart=>exact⟨0,rfl,Nat.zero_le _,λx m=>by simp at m,Xy.refl _ _⟩
 case round =>
  obtain⟨k,rfl,U,i,I⟩:=hrel;by_cases B:k<l.length
  ·have m:l[k]?=AF l[k]:=List.getElem?_eq_getElem B;have g:l.take (k+1)=l.take k++[l[k]]:=List.take_succ_eq_append_getElem B;generalize l[k]=z at m g;have H:=S.out.2.1 z (List.mem_of_getElem? m);obtain⟨gi,ui,T,F,_,_,A⟩:=Us.at' (Us.no S.out.1 I) (λ_ _=>rfl) m;have e0:=A 0 _ rfl;rw[Nat.add_zero]at e0;have e1:=A 1 _ rfl;have e2:=A 2 _ rfl;obtain⟨R,Q,rfl⟩:=F.form;subst T;have aD:(k:Int)<(l.length:Int):=by omega
   have K:=(Xy.refl No wr).alloc (.cells #[.int .u64 z.n,.int .i64 z.s.c,.slice R z.s.body.length Q] 206);have f:=Qy wr (.cells #[.int .u64 z.n,.int .i64 z.s.c,.slice R z.s.body.length Q] 206);have C:DJ Tryz.prog 120 #[.agg #[.int .i64 z.s.c,.slice R z.s.body.length Q]] (wr.alloc (.cells #[.int .u64 z.n,.int .i64 z.s.c,.slice R z.s.body.length Q] 206)) _:=Cf (by omega);by_cases E:z.s.right=true
   ·by_cases W:z.n<2305843009213693952
    ·have X:((2305843009213693952:Int)<=(z.n:Int))=False:=eq_false (by omega);have O:z.Right:=⟨W,by simpa[Ys.right,Ys.Right]using E⟩;rw[E]at C;have o:=BX (A6 (I.then K) f B i g O);clear I K f i g O E W m H F A U B;go_wp2_with(go_at_call 120;refine C.mono ?_;rintro e w2 ⟨rfl,G⟩;have D:=G.heap o.out.2.1 id;have P:=Qq D 0;simp at P);go_roundw;case rel =>
      refine⟨k+1,by congr 1,by have:=o.out.qc;omega,?_,o.out.1.then G⟩;rw[o.out.qe];intro x m;rcases List.mem_append.1 m with m|m
      ·exact o.out.qd x m
      ·rw[List.mem_singleton.1 m];exact o.out.rf
     case measure=>have:=o.out.qc;simp[intOf];omega
    ·have X:((2305843009213693952:Int)<=(z.n:Int))=True:=eq_true (by omega);rw[E]at C;have o:=BX (A2 (I.then K) f);clear I K f i g E W m H F A U B;go_wp2_with(go_at_call 120;refine C.mono ?_;rintro e w2 ⟨rfl,G⟩;have D:=G.heap o.out.2 id;have P:=Qq D 0;simp at P);go_ret2;exact⟨rfl,o.out.1.then G⟩
   ·have E:z.s.right=false:=by simpa using E
    rw[E]at C;have o:=BX (A2 (I.then K) f);clear I K f i g E m H F A U B;go_wp2_with(go_at_call 120;refine C.mono ?_;rintro e w2 ⟨rfl,G⟩;have D:=G.heap o.out.2 id;have P:=Qq D 0;simp at P);go_ret2;exact⟨rfl,o.out.1.then G⟩
  ·have V:k=l.length:=by omega
   rw[V,List.take_of_length_le (BE _)]at i;exact absurd i S.out.2.2
end Go.Proofs.YtfdmbomlkpkegaaGreat
