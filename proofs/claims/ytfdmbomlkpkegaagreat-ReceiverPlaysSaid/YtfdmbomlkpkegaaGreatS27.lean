/- Lemmas. -/
import Derived.Laws.Tables
import Derived.Laws.Rows
import Derived.Test.YtfdmbomlkpkegaaGreatS26
set_option maxRecDepth 100000
set_option maxHeartbeats 8000000
set_option linter.all false
set_option autoImplicit true
set_option relaxedAutoImplicit true
open Go renaming Value->AM,World->AC,setRow_heap->PD,wpList_load_row->PC,wpList_store_row->PE
open Go.Lib renaming hid->BX
open List renaming getElem?_eq_getElem->BY,length_append->BO,replicate->BT
open Nat renaming le_trans->BF,zero_le->BW
open Option renaming none->AI,some->AF
namespace Go.Proofs.YtfdmbomlkpkegaaGreat
section
open Go Go.RowKit Go.Dr
def X7 (inc:Nat)(d:List Nat)(f:List (Nat×Nat×AM))(lv:AM):List AM:=.int .u64 inc::(d.map Mh++(f.flatMap (λx=>[Mh x.1,Mh x.2.1,x.2.2])++[lv]))
def MZ (width k:Nat):List (Nat×Nat×AM):=BT k (0,width,.slice AI 0 0)++BT (16-k) (0,0,.slice AI 0 0)
def Yt (width k:Nat):List AM:=X7 0 (BT 16 0) (MZ width k) (.slice AI 0 0)
theorem UL:Tryz.zeroCells168=(Yt 0 0).toArray:=by kernel_rfl
theorem Pd(width k:Nat)(d:k<=16):(Yt width k).length=66:=by
 have h:(MZ width k).length=16:=by unfold MZ;simp;omega
 unfold Yt X7;rw[List.length_cons,BO,BO,List.length_map,Ml (λx:Nat×Nat×AM=>[Mh x.1,Mh x.2.1,x.2.2]) 3 (λ_=>rfl),h];simp
theorem VX(width k:Nat)(d:k<16):(Yt width k).set (17+k*3+1) (.int .u64 width)=Yt width (k+1):=by
 match k,d with
 | 0,_=>rfl
 | 1,_=>rfl
 | 2,_=>rfl
 | 3,_=>rfl
 | 4,_=>rfl
 | 5,_=>rfl
 | 6,_=>rfl
 | 7,_=>rfl
 | 8,_=>rfl
 | 9,_=>rfl
 | 10,_=>rfl
 | 11,_=>rfl
 | 12,_=>rfl
 | 13,_=>rfl
 | 14,_=>rfl
 | 15,_=>rfl
 | k+16,d=>omega
theorem UF(width k:Nat)(d:k<16):∃u,(Yt width k)[17+k*3+1]?=AF u:=by have h:=Pd width k (by omega);exact⟨_,BY (by omega)⟩
theorem VZ(width k:Nat):(Yt width k).toArray.all (·.oneCell')=true:=by unfold Yt X7 MZ;simp[Mh,Value.oneCell',List.all_append]
structure Jg [bn:Ib](base:Nat)(w:AC)(p q:Nat)(lv:AM)(x:Qn)(width:Nat)(size safe:Int):Prop where
 blk:w.heap[p]?=AF (.cells #[.pointer (AF ⟨q,0,AI⟩),.int .u64 width,.int .i64 size,.int .i64 safe] 157 (0,0))
 rdisk:Zs base w q lv x
 pb:base<=p
theorem Jg.no[bn:Ib](h:Jg base w p q lv x width size safe)(k:Xy No w d):Jg base d p q lv x width size safe :=
 ⟨k.heap h.blk id,h.rdisk.no k,h.pb⟩
structure M1 (base:Nat)(St:Nat->AC->Array AM->Prop):Prop where
 size:∀k w cs,St k w cs->cs.size=66/\cs.all (·.oneCell')=true
 keep:∀k a b cs F,St k a cs->Xy F a b->(∀x,F x->base<=x/\∃cs',a.heap[x]?=AF (.cells cs' 168 (0,0)))->St k b cs
theorem Jl{P:Program}{k:Func}{p r:Tmp}{f:TypeId}(h:k.results=#[.cell p f,.tmp r])(tmps:Array AM)(w:AC)(g:Nat)(t:TypeId)(cs:Array AM)(fr:Nat×Nat)(d:TypeDesc)(v:AM)(o:tmps.getD p undef=.pointer (AF ⟨g,0,AI⟩))(q:tmps.getD r undef=v)(n:w.heap[g]?=AF (.cells cs t fr))(z:P.underlying f=AF d)(m:(match d with|.struct _|.array _ _=>true|_=>false)=true)(hi:(P.info? f).map (·.size)=AF cs.size) :
  (results k tmps).run P w=.ok (.tuple #[.agg cs,v]) w:=by
 have i:tmps[p]?.getD undef=.pointer (AF ⟨g,0,AI⟩):=by simpa using o
 have j:tmps[r]?.getD undef=v:=by simpa using q
 simp[results,h,i,j,asAddr,run_loadVar_row w g t f cs fr d n z m hi]
def Ra (n:Int)(m:Nat):Nat:=if n<0 then m else min n.toNat m
theorem Zi(w:AC)(g:Nat)(cs:Array AM):Xy (·=g) w (w.setRow g cs) :=
 ⟨rfl,rfl,rfl,by simp[World.setRow],λb _ d=>setRow_other w g b cs d⟩
theorem Lz:(Tryz.prog.info? 168).map (·.size)=AF 66:=by kernel_rfl
theorem XD[bn:Ib]{St:Nat->AC->Array AM->Prop}(h:Jg base w p q lv x width size safe)(hb:base<=w.heap.size)(hT:ban.top<=w.heap.size)(hl:x.l.length<=1000)(hs:Ri x.l<=1099511627776)(hm:segs6 x.l=Gt ss)(ho:Hs ss)(F:(Qw ss).length<=400000)(n:Int)(hn:-9223372036854775808<=n/\n<=9223372036854775807)(hL:M1 base St)(h0:∀M,Xy No w M->St 0 M (Yt width 16).toArray)(z:∀(k:Nat) (r:Qs) (M:AC) (cs:Array AM) (pv:AM),(Qw ss)[k]?=AF r->Xy No w M->St k M cs->Qv base M pv r ->
   Calls Tryz.prog 127 #[.agg cs,pv] M λe w2=>∃A,e=.returned (.tuple #[.agg A,.bool true])/\St (k+1) w2 A/\Xy No M w2) :
  Calls Tryz.prog 74 #[.pointer (AF ⟨p,0,AI⟩),.int .i64 n] w λe M=>∃cs,e=.returned (.tuple #[.agg cs,.int .i64 0])/\St (Ra n (Qw ss).length) M cs/\Xy No w M:=by
 have cp:=λi=>Qq h.blk i;have c0:=cp 0;have c1:=cp 1;simp at c0 c1;obtain⟨rs,aI⟩:∃rs,rs=Qw ss:=⟨_,rfl⟩;rw[<- aI]at F z⊢;have j:=BX (A12 h hb hT hl hs hm ho F hn hL h0 z);have HS:=BX aI;clear h hb hT hl hs hm ho F hn hL h0 z cp aI;go_enter Tryz.func74,Tryz.ntmps74;go_upto_region 3 with fail;rw[UL];obtain⟨W,hW⟩:∃W,W=(w.alloc (.cells (Yt 0 0).toArray 168)).alloc (.cells (Yt 0 0).toArray 168):=⟨_,rfl⟩;have d:W.heap[w.heap.size]?=AF (.cells (Yt 0 0).toArray 168 (0,0)):=by rw[hW];exact((Xy.refl No _).alloc _).heap (Qy w _) id
 have N:W.heap[w.heap.size+1]?=AF (.cells (Yt width 0).toArray 168 (0,0)):=by rw[hW];have:=Qy (w.alloc (.cells (Yt 0 0).toArray 168)) (.cells (Yt 0 0).toArray 168);rw[World.size_alloc]at this;exact this
 have kW:Xy No w W:=by rw[hW];exact((Xy.refl _ _).alloc _).alloc _
 rw[<- hW];clear hW;have aR:p<w.heap.size:=Qt j.out.1.blk;have ae:¬p=w.heap.size:=by omega
 have aF:¬p=w.heap.size+1:=by omega
 have c0:=kW.cell c0 id;have c1:=kW.cell c1 id;obtain⟨f,Z⟩:∃f,f=w.heap.size+1:=⟨_,rfl⟩;rw[<- Z]at N aF⊢;have T:¬w.heap.size=f:=by omega
 have X:=BX (A4 d kW Z aR);clear kW Z aR;go_wp2_with fail;go_loopw [13] (λaM wr=>∃k,aM=.int .i64 (k:Nat)/\k<=16/\wr.heap[f]?=AF (.cells (Yt width k).toArray 168 (0,0))/\Xy (·=f) W wr) (λaM _=>16-(intOf aM).toNat);case atStart=>exact⟨0,rfl,BW _,N,Xy.refl _ _⟩
 case round =>
  obtain⟨k,rfl,hk,K,B⟩:=hrel;have c0:=B.cell c0 aF;have c1:=B.cell c1 aF;by_cases o:k<16
  ·have aY:(k:Int)<16:=by omega
   obtain⟨u,hu⟩:=UF width k o;have Y:=Qq K (17+k*3+1);rw[List.getElem?_toArray,hu]at Y;have fu:=Qg K (17+k*3+1);have hs:=Qz (i:=17+k*3+1) (u:=.int .u64 width) K;rw[List.setIfInBounds_toArray,VX width k o]at hs;have ks:Xy (·=f) W (wr.setCell ⟨f,17+k*3+1,AI⟩ (.int .u64 width)):=B.setCell (.inl rfl) _;have O:=BX (A3 hs ks o);clear hs ks o K hu hk B N d;go_wp2_with fail;go_roundw;case rel=>exact⟨k+1,by congr 1,by have:=O.out.2.2;omega,O.out.1,O.out.2.1⟩
   case measure=>have:=O.out.2.2;simp[intOf];omega
  ·have aX:k=16:=by omega
   subst aX;have O:=BX (A2 K B);clear K B hk o N d;have kw:Xy No w wr:=X.out.2.1.trans O.out.2 (λc hc e=>by have:=X.out.qc;have e:c=f:=e;omega);have aS:=Lh (j.out.1.rdisk.no kw) (BF j.out.2.1 kw.size) (BF j.out.qc kw.size) j.out.qd j.out.qe j.out.qf j.out.qg;have V:=O.out.1;have HK:=BX kw;clear kw;go_upto_region 9 with(go_at_call 125;refine aS.mono ?_;rintro e w1 ⟨v1,rfl,aO,_,k1⟩);have E:=ZV aO (BF j.out.2.1 (HK.out.then k1).size) j.out.2.2.2.2.2.2.1.few (by rw[<- HS.out];exact j.out.qh);rw[<- HS.out]at E;have U:=k1.heap V id;have HA:=BX k1;clear aS aO k1;refine E.mono ?_;rintro e w2⟨v2,rfl,aG,k2⟩;have aT:=k2.heap U id;have aL:=(HK.out.then HA.out).then k2;have S:w2.heap[w.heap.size]?=AF (.cells (Yt 0 0).toArray 168 (0,0)):=(HA.out.then k2).heap (O.out.2.heap X.out.1 T) id;obtain⟨o2,ab,rfl,_,_⟩:=aG.form;have Q:=j.out.qk w2 aL;have P:=j.out.qh;have ad:(rs.length:Int)<=400000:=by omega
   have D:=BX (A6 aG aL S aT Q P);clear E aG k2 S Q P U V aL;go_upto_region 10 with fail;go_wp2_with fail;go_loopw [40] (λaN wr=>∃k cs,aN=.int .i64 (k:Nat)/\k<=rs.length/\(n<0\/(k:Int)<=n)/\wr.heap[f]?=AF (.cells cs 168 (0,0))/\St k wr cs/\Xy (·=f) w2 wr) (λaN _=>rs.length-(intOf aN).toNat);case atStart=>exact⟨0,_,rfl,BW _,by omega,D.out.qd,D.out.qe,Xy.refl _ _⟩
   case round =>
    obtain⟨k,cs,rfl,hk,aQ,K,G,B⟩:=hrel;obtain⟨I,z⟩:=j.out.2.2.2.2.2.2.2.2.2.1.size _ _ _ G;have m:(Tryz.prog.info? 168).map (·.size)=AF cs.size:=by rw[I];exact Lz
    by_cases hA:k<rs.length/\(n<0\/(k:Int)<n)
    ·obtain⟨o,hn⟩:=hA;have hx:rs[k]?=AF rs[k]:=BY o;generalize rs[k]=r at hx;obtain⟨g,u,aC,Y,bu⟩:=D.out.1.cell hx;subst aC;obtain⟨uo,uc,rfl⟩:=bu.form;have aB:¬g=f:=λe=>by
      subst e;obtain⟨us,_,_,aH⟩:=D.out.1;obtain⟨_,aU,L⟩:=Qa aH g (by rfl);rw[D.out.qd]at L;simp at L
     have Y:=B.cell Y aB;have aY:(k:Int)<(rs.length:Int):=by omega
     have ac:=Nat.succ_le_of_lt o;have kk:=D.out.2.1.trans B (λc hc e=>by have:=X.out.qc;have e:c=f:=e;omega);have aP:Uz base w2 (·=f):=λb e=>by
      have e:b=f:=e;subst e;have h1:=X.out.qc;have h2:=j.out.2.1;exact⟨by omega,Qt D.out.qd,λcs fr e=>by rw[D.out.qd]at e;simp at e⟩
     have aA:=j.out.rl k r wr cs _ hx kk G (bu.keep aP B);have C:=BX (A4 o hn kk B);clear G kk B o hx bu hk aQ aP;have aW:0<=n/\¬n<=(k:Int)\/¬0<=n:=by rcases hn with h|h<;>omega
     clear hn;rcases aW with⟨q1,q2⟩|q1;all_goals
      go_upto_region 14 with fail;go_upto_region 15 with fail;go_wp2_with(refine PC rfl 168 _ rfl f rfl 168 cs (0,0) _ K Tryz.underlying168 rfl m ?_);refine aA.mono ?_;rintro e w3⟨A,rfl,H,k3⟩;have aJ:=k3.heap K id;obtain⟨J,aE⟩:=j.out.2.2.2.2.2.2.2.2.2.1.size _ _ _ H;have aD:(Tryz.prog.info? 168).map (·.size)=AF A.size:=by rw[J];exact Lz
      have aZ:cs.size=A.size:=by rw[I,J]
      have R:=j.out.2.2.2.2.2.2.2.2.2.1.keep _ _ _ _ (·=f) H (Zi w3 f A) (λx e=>by have e:x=f:=e;subst e;exact⟨by have h1:=X.out.qc;have h2:=j.out.2.1;omega,_,aJ⟩);have d:=PD w3 f cs A _ _ aJ;have H4:=BX (A3 R d ((C.out.2.2.2.then k3).trans (Zi w3 f A) (λc hc e=>e)));clear H R d I J;go_wp2_with(refine PE rfl 168 _ _ rfl f A rfl rfl 168 cs aJ aD aZ aE ?_);go_roundw;case rel=>exact⟨k+1,_,by congr 1,by have:=C.out.1;omega,by rcases C.out.2.1 with h|h<;>omega,H4.out.2.1,H4.out.1,H4.out.2.2⟩
      case measure=>have:=C.out.1;simp[intOf];omega
    ·have hK:Ra n rs.length=k:=by unfold Ra;split<;>omega
     have d:=B.heap D.out.qc T;have kk:=D.out.2.1.trans B (λc hc e=>by have:=X.out.qc;have e:c=f:=e;omega);have C:=BX (A4 G kk hK z);have aV:k<rs.length/\0<=n/\n<=(k:Int)\/¬(k:Int)<(rs.length:Int):=by omega
     clear G kk hK z hA hk aQ;rcases aV with⟨q1,q2,q3⟩|q1
     ·have q1:(k:Int)<(rs.length:Int):=by omega
      obtain⟨r,hx⟩:∃r,rs[k]?=AF r:=⟨_,BY (by omega)⟩;obtain⟨g,u,aC,Y,bu⟩:=D.out.1.cell hx;subst aC;obtain⟨uo,uc,rfl⟩:=bu.form;have aB:¬g=f:=λe=>by
       subst e;obtain⟨us,_,_,aH⟩:=D.out.1;obtain⟨_,aU,L⟩:=Qa aH g (by rfl);rw[D.out.qd]at L;simp at L
      have Y:=B.cell Y aB;clear B bu hx;go_upto_region 19 with fail;go_wp2_with(first|(refine PC rfl 168 _ rfl f rfl 168 cs (0,0) _ K Tryz.underlying168 rfl m ?_)|(refine PE rfl 168 _ _ rfl w.heap.size cs rfl rfl 168 _ d m (by rw[I];rfl) C.out.2.2.2 ?_));have aK:=PD wr w.heap.size _ cs _ _ d;refine bodyPost_ret (v:=.tuple #[.agg cs,.int .i64 0]) (Jl rfl _ _ w.heap.size 168 cs (0,0) _ _ rfl rfl aK Tryz.underlying168 rfl m) rfl ⟨cs,rfl,?_,C.out.2.1.trans (Zi wr w.heap.size cs) (λc hc e=>by have e:c=w.heap.size:=e;omega)⟩;rw[C.out.qc];exact j.out.2.2.2.2.2.2.2.2.2.1.keep _ _ _ _ (·=w.heap.size) C.out.1 (Zi wr w.heap.size cs) (λx e=>by have e:x=w.heap.size:=e;subst e;exact⟨j.out.2.1,_,d⟩)
     ·clear B;go_upto_region 19 with fail;go_wp2_with(first|(refine PC rfl 168 _ rfl f rfl 168 cs (0,0) _ K Tryz.underlying168 rfl m ?_)|(refine PE rfl 168 _ _ rfl w.heap.size cs rfl rfl 168 _ d m (by rw[I];rfl) C.out.2.2.2 ?_));have aK:=PD wr w.heap.size _ cs _ _ d;refine bodyPost_ret (v:=.tuple #[.agg cs,.int .i64 0]) (Jl rfl _ _ w.heap.size 168 cs (0,0) _ _ rfl rfl aK Tryz.underlying168 rfl m) rfl ⟨cs,rfl,?_,C.out.2.1.trans (Zi wr w.heap.size cs) (λc hc e=>by have e:c=w.heap.size:=e;omega)⟩;rw[C.out.qc];exact j.out.2.2.2.2.2.2.2.2.2.1.keep _ _ _ _ (·=w.heap.size) C.out.1 (Zi wr w.heap.size cs) (λx e=>by have e:x=w.heap.size:=e;subst e;exact⟨j.out.2.1,_,d⟩)
theorem Io[bn:Ib](h:Zs base w q lv x)(k:base<=w.heap.size)(z:ban.top<=w.heap.size)(A:x.l.length<=1000)(C:Ri x.l<=1099511627776)(B:segs6 x.l=Gt ss)(n:Hs ss)(d:(Qw ss).length<=400000) :
  Calls Tryz.prog 119 #[.pointer (AF ⟨q,0,AI⟩)] w λe I=>e=.returned (.int .i64 (Qw ss).length)/\Xy No w I:=by
 have o:=Lh h k z A C B n;have f:=λ(g:AC) (p:AM) (G:R7 base g p ss) (m:base<=g.heap.size)=>ZV G m n.few d;have E:=BX k;clear h k z A C B n d;go_enter Tryz.func119,Tryz.ntmps119;go_wp2_with(first
  | (go_at_call 126;refine j.mono ?_;rintro e M ⟨L,rfl,F,H⟩;obtain⟨K,J,rfl,_,_⟩:=F.form)
  | (go_at_call 125;refine o.mono ?_;rintro e g ⟨p,rfl,i,_,D⟩;have j:=f g p i (BF E.out D.size)))
 go_ret;exact⟨rfl,D.then H⟩
theorem Jg.ne[bn:Ib](h:Jg base w p q lv x width size safe):¬q=p:=λe=>by
 have d:=h.blk
 rw[<- e,h.rdisk.blk]at d
 simp at d
theorem Pv[bn:Ib](h:Jg base w p q lv x width size safe)(C:base<=w.heap.size)(Z:ban.top<=w.heap.size)(hl:x.l.length<=1000)(hs:Ri x.l<=1099511627776)(hm:segs6 x.l=Gt ss)(ho:Hs ss)(n:(Qw ss).length<=400000) :
  Calls Tryz.prog 70 #[.pointer (AF ⟨p,0,AI⟩)] w λe M=>(∃v,e=.returned v)/\Jg base M p q lv x.sync width size (Qw ss).length/\Xy (λb=>b=p\/b=q) w M:=by
 have S:=Qq h.blk 0;simp at S;obtain⟨lo,O,rfl,_,_⟩:=h.rdisk.calls.form;have U:=λi=>Qq h.rdisk.blk i;have Q:=U 2;have R:=U 3;have f3:=Qg h.rdisk.blk 3;simp at Q R;have d:=BX (A8 h C Z hl hs hm ho n);clear h C Z hl hs hm ho n U;go_enter Tryz.func70,Tryz.ntmps70;go_upto_region 0 with fail;have kd:Xy No w w.drew:=(Xy.refl _ _).drew;refine Ql (λM=>Xy No w M) [0,1,2,3,4,5,6,7,8,9,10,11] [] [12,13,14] (by kernel_rfl) (by kernel_rfl) (λ_ _ _ _ _ h=>h) kd ?_;iterate 12(refine Qk (v:=?_) rfl rfl rfl ?_ ?_;rotate_left;focus(
  intro M Y;have f0:=Y.cell S id;have f1:=Y.cell Q id;go_simp
  try with_reducible rfl))
 refine Qj (Qh (Qu rfl (Qu rfl (Qu rfl (Qm ?_)))));have j:=kd.heap d.out.1.rdisk.blk id;have R:=kd.cell R id;have f3:=Qg j 3;have J:=Qz (i:=3) (u:=.int .i64 (x.l.length:Nat)) j;have D:Xy (·=q) w.drew (w.drew.setCell ⟨q,3,AI⟩ (.int .i64 (x.l.length:Nat))):=Qd _ _;have z:=d.out.1.ne;have H:Uz base w.drew (·=q):=λb e=>by
  have e:b=q:=e;subst e;exact⟨d.out.1.rdisk.qb,Qt j,λcs fr e=>by rw[j]at e;simp at e⟩
 have A:Zs base (w.drew.setCell ⟨q,3,AI⟩ (.int .i64 (x.l.length:Nat))) q (.slice lo x.l.length O) x.sync :=
  ⟨by simpa[Qn.sync]using J,((d.out.1.rdisk.no kd).calls).keep H D (λb C e=>by
   have e:b=q:=e;obtain⟨_,V,L⟩:=d.out.1.rdisk.calls.kind b C;rw[e,d.out.1.rdisk.blk]at L
   simp at L),d.out.1.rdisk.qb⟩
 have k:Jg base (w.drew.setCell ⟨q,3,AI⟩ (.int .i64 (x.l.length:Nat))) p q (.slice lo x.l.length O) x.sync width size safe:=⟨D.heap (kd.heap d.out.1.blk id) (λe=>z e.symm),A,d.out.1.pb⟩;have m:=Io A (BF d.out.2.1 (BF kd.size D.size)) (BF d.out.qc (BF kd.size D.size)) d.out.qd d.out.qe d.out.qf d.out.qg d.out.rh;have B:Xy (·=q) w (w.drew.setCell ⟨q,3,AI⟩ (.int .i64 (x.l.length:Nat))):=kd.no.trans D (λ_ _ e=>e);obtain⟨X,o⟩:∃X,w.drew.setCell ⟨q,3,AI⟩ (.int .i64 (x.l.length:Nat))=X:=⟨_,rfl⟩;rw[o]at k B m;have T:=Qq k.blk 0;simp at T;have P:=BX (A3 k B z);clear k B A H J D j kd z S Q;go_upto_region 1 with fail;try rw[o]
 clear o;go_wp2_with fail;refine m.mono ?_;rintro e E⟨rfl,k2⟩;have g:=P.out.1.no k2;have f:=g.blk;have d3:=Qq f 3;have aA:=Qg f 3;simp at d3;have K:=Qz (i:=3) (u:=.int .i64 ((Qw ss).length:Nat)) f;have N:Xy (·=p) E (E.setCell ⟨p,3,AI⟩ (.int .i64 ((Qw ss).length:Nat))):=Qd _ _;have G:Uz base E (·=p):=λb e=>by
  have e:b=p:=e;subst e;exact⟨d.out.1.pb,Qt f,λcs fr e=>by rw[f]at e;simp at e⟩
 have F:Zs base (E.setCell ⟨p,3,AI⟩ (.int .i64 ((Qw ss).length:Nat))) q (.slice lo x.l.length O) x.sync :=
  ⟨N.heap g.rdisk.blk P.out.2.2,g.rdisk.calls.keep G N (λb C e=>by
   have e:b=p:=e;obtain⟨_,V,L⟩:=g.rdisk.calls.kind b C;rw[e,f]at L
   simp at L),g.rdisk.qb⟩
 have I:Jg base (E.setCell ⟨p,3,AI⟩ (.int .i64 ((Qw ss).length:Nat))) p q (.slice lo x.l.length O) x.sync width size (Qw ss).length:=⟨by simpa using K,F,d.out.1.pb⟩;have kk:Xy (λb=>b=p\/b=q) w (E.setCell ⟨p,3,AI⟩ (.int .i64 ((Qw ss).length:Nat))):=((P.out.2.1.then k2).mono (λ_ _ e=>.inr e)).trans (N.mono (λ_ _ e=>.inl e)) (λ_ _ e=>e);have W:=BX (A2 I kk);clear g f K N G F I kk;go_wp2_with fail
 go_end0
 exact⟨⟨_,rfl⟩,W.out.1,W.out.2⟩
end
section
open Go Go.RowKit Go.Dr Go.Shelf
end
end Go.Proofs.YtfdmbomlkpkegaaGreat
