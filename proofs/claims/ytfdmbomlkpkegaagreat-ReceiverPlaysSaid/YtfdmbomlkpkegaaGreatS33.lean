/- Lemmas. -/
import Derived.Test.YtfdmbomlkpkegaaGreatS32
set_option maxRecDepth 100000
set_option maxHeartbeats 8000000
set_option linter.all false
set_option autoImplicit true
set_option relaxedAutoImplicit true
open Go renaming Calls->DJ,Value->AM,World->AC
open Go.Lib renaming hid->BX
open Go.Value renaming ownBlock->DK,slice->DN
open Int renaming le_refl->PX
open List renaming getElem?_eq_getElem->BY,getElem?_map->CK,length->FA,length_append->BO,length_cons->AT,length_map->D6,map_append->O5,map_map->LI,mem_append->CG,mem_of_getElem?->FB,mem_singleton->AZ,take_append_of_le_length->E2,take_length->BZ,take_of_length_le->DU
open Nat renaming add_zero->OM,le_add_right->PW,le_refl->BE,le_succ->O1,le_trans->BF,zero_le->BW
open Option renaming none->AI,some->AF
open Prod renaming ext->PV
open UInt8 renaming ofNat->D7
namespace Go.Proofs.YtfdmbomlkpkegaaGreat
open Go Go.RowKit Go.Dr Go.Shelf
def U2 (w:AC)(b:Nat)(y:Xn)(k:Nat)(i:AM):Prop:=∃h n f,w.heap[b]?=AF (.cells #[.int .u64 y.low,.int .u64 y.width,.slice h n f] 164 (0,0))/\Rq w (.slice h n f) y k/\∀c,i.ownBlock=AF c->¬(DN h n f).ownBlock=AF c
theorem U2.no(h:U2 w b y k i)(f:Xy No w w'):U2 w' b y k i:=by obtain⟨D,n,C,o,z,A⟩:=h;exact⟨D,n,C,f.heap o id,z.no f,A⟩
theorem Rq.keepN(h:Rq w v x k)(z:Xy F w w')(hF:∀b,v.ownBlock=AF b->¬F b):Rq w' v x k:=by obtain⟨l,f,i,o⟩:=h;exact⟨l,f.keep z hF,i,o⟩
theorem Rq.lt(h:Rq w v x k):∀b,v.ownBlock=AF b->b<w.heap.size:=λb o=>by
 obtain⟨l,i,_⟩:=h
 obtain⟨_,f,z⟩:=i.kind b o
 exact Qt z
structure Re [bn:Ib](w wr:AC)(b:Nat)(vn vb:AM)(y:Xn)(t:List Qc)(k:Nat):Prop where
 nums:Uo wr w.heap.size vn (t.map (·.n))
 bytes:Kr wr w.heap.size vb (Qb t)
 box:U2 wr b (y.putAll t) k vn
 kp:Xy No w wr
 new:w.heap.size<=b
theorem Re.no[bn:Ib](h:Re w wr b o i y t k)(f:Xy No wr w'):Re w w' b o i y t k :=
 ⟨h.nums.no f,h.bytes.keep f (λ_ _ e=>e),h.box.no f,h.kp.then f,h.new⟩
theorem NV(x:Xn)(i:x.Ok)(b:Nat)(z:b<=4611686018427387904):(x.skip b).low=x.low↔x.skip b=x:=by
 constructor
 ·intro h;unfold Xn.skip at h⊢
  split
  ·rfl
  ·rename_i k;rw[if_neg k]at h;exfalso;have f:=(Gw (w:=⟨b-1,x.width,x.set⟩) i.set (λr o=>by have:=i.above _ (i.set.last o);omega)).qd;rw[h]at f;have f:b-1<=x.low:=f;omega
 ·intro h;rw[h]
theorem QN{w:AC}{o:Oper}{a:Act}{K:Act->AC->Prop}{Q:Exit->Act->AC->Prop}(s x:Operand)(O:o.op=.call {callee:=.builtin .append,args:=#[s,x],argTypes:=#[52,52]}){B:Nat}{v:AM}{l:List Nat}(h:Uo w B v l)(R:a.eval s=v){D n:Nat}(I:w.heap[D]?=AF (.cells #[.int .u64 n] 27 (0,0)))(S:a.eval x=.slice (AF ⟨D,0,AI⟩) 1 1)(U:l.length<=1099511627776)(M:B<=w.heap.size)(J:∀H G w',Uo w' B (.slice H (l.length+1) G) (l++[n])->Xy (λb=>v.ownBlock=AF b) w w'->(∀c,(DN H (l.length+1) G).ownBlock=AF c->v.ownBlock=AF c\/w.heap.size<=c)->K (a.put o.dst (.slice H (l.length+1) G)) w'):o.wp Tryz.prog a w K Q:=by
 obtain⟨T,A,C,E,F⟩:=info_parts Wt;refine wp_append_lies w s x 52 O B 27 T _ 1 8 Tryz.underlying52 A C E F rfl (by omega) v l.length (l.map Mh) R h
  ⟨D,0,AI⟩ 1 1 [.int .u64 n] S rfl (World.news_of_block (cs:=#[.int .u64 n]) (t:=27) (fr:=(0,0)) I) (by simp[Value.oneCell']) (by omega) (by unfold maxLen;omega) (by omega) M w.heap.size rfl ?_
 intro g cap w' f z i N;refine J _ _ _ ?_ (Jr z) (λc k=>by
  have k:g=c:=by simpa[DK]using k
  subst k
  exact i.imp id (λe=>by omega))
 unfold Uo;rw[BO,O5];exact f
def M7 [bn:Ib](base:Nat)(w:AC)(p q:Nat)(lv:AM)(x':Qn)(width:Nat)(size safe:Int)(w':AC):Option Ji->Prop
 | none=>Xy No w w'
 | some _=>Ho base w p q lv x' width size safe w'
theorem Ew[bn:Ib]{base:Nat}{w:AC}{p q width j cnt a b:Nat}{lv iv:AM}{x x':Qn}{size safe c:Int}{ss:List Jh}{ts:List Ji}{L:Xs}{d:Qr}{l:List Qc}(h:RR base w p q lv x width size safe ss ts L j cnt d)(ha:a<16)(aj:Gs base w iv l)(hr:Yv b l=true)(ct:l.length<=8)(ci:∀x∈l,x.s.body.length<=40)(bj:L.recs.length<=900000)(hb:base<=w.heap.size)(hT:ban.top<=w.heap.size)(bv:∀r,L.putR a b l=AF r->x.append (Uj (Ku size ss)).n (appB (Ku size ss) r.bytes)=(x',c)) :
  DJ Tryz.prog 72 #[.pointer (AF ⟨p,0,AI⟩),.int .i64 a,.int .u64 b,iv] w λe w' =>
   ∃tv,e=.returned (.tuple #[tv,.int .i64 (R0 c (L.putR a b l))])/\Uo w' w.heap.size tv (if R0 c (L.putR a b l)=0 then(pick ((L.win a).skip b) l).map (·.n)else[])/\M7 base w p q lv x' width size safe w' (L.putR a b l):=by
 obtain⟨io,ic,rfl,_,_⟩:=Us.form aj;obtain⟨g,hg,bP,cB,_⟩:=h.okL.at ha;have be:L.now[a]?=AF (g.floor,g.now):=by unfold Xs.now;rw[CK,hg];rfl
 obtain⟨aX,aH⟩:=(Jm b l).1 hr;have aS:=h.told hb hT;have du:(a:Int)<16:=by omega
 have dx:((2305843009213693952:Int)<=(b:Int))=False:=eq_false (by omega);have h8:(l.length:Int)<=8:=by omega
 obtain⟨pr,aq⟩:∃pr,pr=L.putR a b l:=⟨_,rfl⟩;obtain⟨y,hy⟩:∃y,y=g.now.skip b:=⟨_,rfl⟩;have cL:=bP.fine.skip (b:=b) (by omega);rw[<- hy]at cL;rw[cB,<- aq,<- hy];have bg:pr=if pick y l=[]/\y=g.now then AI else AF (.put a b (pick y l)):=by rw[aq];unfold Xs.putR;rw[cB,<- hy]
 have bc:∀r,pr=AF r->L.can r:=λr e=>Xs.putR_can ha hr (by omega) (by rw[<- aq];exact e);rw[<- aq]at bv;obtain⟨cc,bw⟩:∃cc,cc=R0 c pr:=⟨_,rfl⟩;obtain⟨nl,cI⟩:∃nl:List Nat,nl=if cc=0 then(pick y l).map (·.n)else[]:=⟨_,rfl⟩
 rw[<- bw,<- cI];have am:=NV g.now bP.now b (by omega);rw[<- hy]at am;have cp:=λi=>Qq h.mem.blk i;have bK:=cp 0;have bL:=cp 2;simp at bK bL;have HC:=BX (A2 bw cI);have S:=BX (A9 h aj hb hT bv bg bc bj ha);have HP:=BX (A9 cL aX aH ct ci bP am hy be);clear h aj hr ct ci bj hb hT bv bg bc aq cL aX aH bP am hy be hg cB ha bw cI cp;go_enter Tryz.func72,Tryz.ntmps72;go_wp2_with fail;go_loopw [35] (λcQ wr=>∃k,cQ=.int .i64 (k:Nat)/\k<=l.length/\Xy No w wr) (λcQ _=>l.length-(intOf cQ).toNat);case atStart=>exact⟨0,rfl,BW _,Xy.refl _ _⟩
 case round =>
  obtain⟨k,rfl,hk,kr⟩:=hrel;by_cases J:k<l.length
  ·have hx:l[k]?=AF l[k]:=BY J;generalize l[k]=z at hx;have aN:=FB hx;have aF:=HP.out.2.1 z aN;have bB:=HP.out.qe z aN;obtain⟨gi,ui,cA,aT,_,_,V⟩:=Us.at' (Us.no S.out.2.1 kr) (λ_ _=>rfl) hx;have e0:=V 0 _ rfl;rw[OM]at e0;have e1:=V 1 _ rfl;have e2:=V 2 _ rfl;obtain⟨uo,uc,rfl⟩:=aT.form;subst cA;have cE:(k:Int)<(l.length:Int):=by omega
   have kA:=(Xy.refl No wr).alloc (.cells #[.int .u64 z.n,.int .i64 z.s.c,.slice uo z.s.body.length uc] 206);have M:=Qy wr (.cells #[.int .u64 z.n,.int .i64 z.s.c,.slice uo z.s.body.length uc] 206);have dF:DJ Tryz.prog 120 #[.agg #[.int .i64 z.s.c,.slice uo z.s.body.length uc]] (wr.alloc (.cells #[.int .u64 z.n,.int .i64 z.s.c,.slice uo z.s.body.length uc] 206)) _:=Cf (by omega);have dy:((2305843009213693952:Int)<=(z.n:Int))=False:=eq_false (by have:=aF.1;omega);have hs:z.s.right=true:=by simpa[Ys.right,Ys.Right]using aF.2
   rw[hs]at dF;have f:=BX (A3 (kr.then kA) M J);clear kr kA M aF hs hx bB aT V hk J aN;go_wp2_with(go_at_call 120;refine dF.mono ?_;rintro e w2 ⟨rfl,k2⟩;have bR:=k2.heap f.out.2.1 id;have n0:=Qq bR 0;simp at n0);go_roundw;case rel=>exact⟨k+1,by congr 1,by have:=f.out.2.2;omega,f.out.1.then k2⟩
   case measure=>have:=f.out.2.2;simp[intOf];omega
  ·have cE:¬(k:Int)<(l.length:Int):=by omega
   rename AC=>w1
   have aS:=S.out.1.no kr |>.told (BF S.out.qc kr.size) (BF S.out.qd kr.size);have HK:=BX kr;clear kr hk J;go_upto_region 10 with(first
    | (go_at_call 74;refine aS.mono ?_;rintro e w2 ⟨cs,rfl,aw,k2⟩;have dJ:=aw.size;have bf:=aw.all;have bd:=aw.info;have HS:=BX aw;clear aw)
    | (refine wpList_store_row rfl 168 _ _ rfl w2.heap.size cs rfl rfl 168 Tryz.zeroCells168 (Qy _ _) bd (by rw[dJ];rfl) bf ?_))
   have bA:=setRow_heap _ w2.heap.size _ cs _ _ (Qy w2 (.cells Tryz.zeroCells168 168));have k3:Xy No w2 ((w2.alloc (.cells Tryz.zeroCells168 168)).setRow w2.heap.size cs):=((Xy.refl No w2).alloc _).trans (Zi _ w2.heap.size cs) (λc hc e=>by have e:c=w2.heap.size:=e;omega);generalize (w2.alloc (.cells Tryz.zeroCells168 168)).setRow w2.heap.size cs=W3 at *;obtain⟨cS,ag⟩:∃cS,cS=w2.heap.size:=⟨_,rfl⟩;rw[<- ag]at bA⊢;have cb:Hj base W3 cs L.inc L.now L.recs L.recs.length:=Hj.no HS.out k3;obtain⟨_,g1,g2,dv,g3,bz⟩:=cb.ags a _ HP.out.ri;obtain⟨ds,dr,dq,rfl⟩:=bz.form;have a0:=Qq bA (17+a*3);have a1:=Qq bA (17+a*3+1);have a2:=Qq bA (17+a*3+2);rw[g1]at a0;rw[g2]at a1;rw[g3]at a2;unfold Mh at a0 a1;have bS:=Aq bz (by have:=S.out.qh;omega) HP.out.2.2.2.2.2.1.now b (by have:=HP.out.qc;omega);rw[<- HP.out.qh]at bS;have dN:y.width=g.now.width:=by rw[HP.out.1.width,HP.out.2.2.2.2.2.1.fine.width]
   rw[<- dN]at bS a1;have cM:=(HK.out.then k2).then k3;have h3:=cM.size;have HA:=BX (A3 cM h3 ag);clear bA bd bf dJ aS k2 k3 ag cb g1 g2 g3 bz dN cM h3;go_upto_region 11 with(go_at_call 121;refine bS.mono ?_;rintro e w4 ⟨u4,rfl,cK,k4⟩;obtain⟨o4,n4,c4,rfl⟩:=cK.form);clear bS;have kA:=(Xy.refl No w4).alloc (.cells #[.int .u64 y.low,.int .u64 y.width,.slice o4 n4 c4] 164);have hA:=Qy w4 (.cells #[.int .u64 y.low,.int .u64 y.width,.slice o4 n4 c4] 164);obtain⟨W5,cf⟩:∃W5,W5=w4.alloc (.cells #[.int .u64 y.low,.int .u64 y.width,.slice o4 n4 c4] 164):=⟨_,rfl⟩;rw[<- cf]at kA hA⊢;obtain⟨E,Y⟩:∃E,E=w4.heap.size:=⟨_,rfl⟩;rw[<- Y]at hA⊢;have cN:=k4.then kA;have d0:=Qq hA 0;simp at d0;have a0:=cN.cell a0 id;obtain⟨sn,D⟩:∃sn,sn=((y.low:Int) != (g.now.low:Int)):=⟨_,rfl⟩;have dI:=D.symm;have dH:sn=!decide (y=g.now):=by
    rw[D];have:=HP.out.qg;by_cases e:y=g.now
    ·have e1:=this.2 e;rw[e1];simp[e]
    ·have e1:¬y.low=g.now.low:=λe1=>e (this.1 e1);simp[e];omega
   clear D;have cd:Re w W5 E (.slice AI 0 0) (.slice AI 0 0) y [] L.recs.length:=⟨Uo.nil _ _,Kr.nil _ _,⟨o4,n4,c4,hA,cK.no kA,λc e=>by simp[DK]at e⟩,HA.out.1.then cN,by have:=HA.out.2.1;have:=k4.size;omega⟩;have ac:=BX (A2 cd dH);clear cd dH cK kA hA cf Y cN k4 a1 a2;have kd:Xy No W5 W5.drew:=(Xy.refl _ _).drew;refine Ql (λw'=>Xy No W5 w') [0,1,2,3,4,5,6,7] [8] [] (by kernel_rfl) (by kernel_rfl) (λ_ _ _ _ _ h=>h) kd ?_;iterate 8(refine Qk (v:=?_) rfl rfl rfl ?_ ?_;rotate_left;focus(
    intro w' hS;have f0:=hS.cell d0 id;have f1:=hS.cell a0 id;go_simp
    try with_reducible rfl))
   refine Qj (Qx rfl rfl (λK I=>?_));go_simp;refine I _ _ kd ?_;clear I K;refine Qh (Qm ?_);have ac:=BX (A2 (ac.out.1.no kd) ac.out.2);obtain⟨W6,cg⟩:∃W6,W6=W5.drew:=⟨_,rfl⟩;rw[<- cg]at ac⊢;clear kd cg d0 a0 dI;go_wp2_with fail;go_loopw [16,17,70] (λdg dh cR wr=>∃k,cR=.int .i64 (k:Nat)/\k<=l.length/\Re w wr E dg dh y (pick y (l.take k)) (L.recs.length+(pick y (l.take k)).length)) (λ_ _ cR _=>l.length-(intOf cR).toNat);case atStart=>exact⟨0,rfl,BW _,ac.out.1⟩
   case round =>
    obtain⟨k,rfl,hk,A⟩:=hrel;obtain⟨t,ht⟩:∃t,t=pick y (l.take k):=⟨_,rfl⟩;rw[<- ht]at A;obtain⟨af,tc,db,dl,dm⟩:=A.nums.form;obtain⟨po,pc,dZ⟩:=A.bytes.form;subst db dZ;by_cases J:k<l.length
    ·have hx:l[k]?=AF l[k]:=BY J;have aE:l.take (k+1)=l.take k++[l[k]]:=List.take_succ_eq_append_getElem J;generalize l[k]=z at hx aE;have aN:=FB hx;have aF:=HP.out.2.1 z aN;have bB:=HP.out.qe z aN;have O:t.length<=8/\∀x∈t,x.Right/\x.s.body.length<=40:=by rw[ht];have hs:=(Xi y (l.take k)).trans (List.take_sublist k l);exact⟨BF hs.length_le HP.out.qd,λx hx=>⟨HP.out.2.1 x (hs.subset hx),HP.out.qe x (hs.subset hx)⟩⟩
     have D:=Uw y (l.take k) z;rw[<- aE,<- ht]at D;obtain⟨gi,ui,cA,aT,_,_,V⟩:=Us.at' (Us.no S.out.2.1 A.kp) (λ_ _=>rfl) hx;have e0:=V 0 _ rfl;rw[OM]at e0;have e1:=V 1 _ rfl;have e2:=V 2 _ rfl;obtain⟨uo,uc,rfl⟩:=aT.form;subst cA;have cE:(k:Int)<(l.length:Int):=by omega
     have G:(y.putAll t).Fine width:=HP.out.1.putAll (λx hx=>(O.2 x hx).1.1);obtain⟨T,bM⟩:∃T,T=y.putAll t:=⟨_,rfl⟩;have bZ:=A.box;rw[<- bM]at D G bZ;obtain⟨xo,xn,xc,aP,bN,_⟩:=bZ;have b0:=Qq aP 0;have b1:=Qq aP 1;have b2:=Qq aP 2;simp at b0 b1 b2;have kA:=(Xy.refl No wr).alloc (.cells #[.int .u64 z.n,.int .i64 z.s.c,.slice uo z.s.body.length uc] 206);have dV:=λo=>((Xy.refl No wr).alloc o).cell b0 id;have dW:=λo=>((Xy.refl No wr).alloc o).cell b1 id;have dX:=λo=>((Xy.refl No wr).alloc o).cell b2 id;have M:=Qy wr (.cells #[.int .u64 z.n,.int .i64 z.s.c,.slice uo z.s.body.length uc] 206);have ai:=kA.heap aP id;have bt:=Qt aP;have aL:=Dh (bN.no kA) (by have:=S.out.qh;have:=O.1;omega) G.ok z.n;have H:(t.map (·.n)).length=t.length:=by simp
     rw[H]at A⊢;cases ay:T.takes z.n
     ·rw[ay]at aL D;have D:pick y (l.take (k+1))=t:=by rw[D];simp
      have f:=BX (A3 (A.no kA) J D);clear A J D hx aE aN aF bB O aT G bM aP bN kA M ai bt ay ht hk H V b0 b1 b2;go_wp2_with(go_at_call 122;refine aL.mono ?_;rintro e w6 ⟨rfl,k6⟩);go_roundw;case rel=>exact⟨k+1,by congr 1,by have:=f.out.2.1;omega,by rw[f.out.2.2];exact f.out.1.no k6⟩
      case measure=>have:=f.out.2.1;simp[intOf];omega
     ·rw[ay]at aL D;have D:pick y (l.take (k+1))=t++[z]:=by rw[D];simp
      have bh:=λ(w':AC) (kk:Xy No (wr.alloc (.cells #[.int .u64 z.n,.int .i64 z.s.c,.slice uo z.s.body.length uc] 206)) w')=>Bi ((bN.no kA).no kk) (by have:=S.out.qh;have:=O.1;omega) G.ok z.n (by have:=aF.1;omega) ay;have ce:(y.putAll (t++[z]))=T.put z.n:=by rw[Kq,<- bM];rfl
      have dL:(T.put z.n).width=T.width:=by rw[(G.put aF.1).width,G.width]
      have f:=BX (A13 (A.no kA) J D ai M (aT.no kA) aF bB O ce bh bt dL);clear A J D hx aE aN aF bB O aT G bM aP bN kA M ai bt ay ht hk H V b0 b1 b2 bh ce dL;go_upto_region 19 with(first
       | (go_at_call 123;refine(f.out.qk w6 k6).mono ?_;rintro e w7 ⟨u7,rfl,bO,k7,cn⟩;obtain⟨o7,n7,c7,rfl⟩:=bO.form;have Q:=k7.heap ah id;have cz:=k7.heap cH id;have q0:=Qq Q 0;have q1:=Qq Q 1;have q2:=Qq Q 2;simp at q0 q1 q2;have fq:=Qg Q)
       | (go_at_call 122;refine aL.mono ?_;rintro e w6 ⟨rfl,k6⟩;have ah:=k6.heap f.out.qd id;have p0:=Qq ah 0;have p1:=Qq ah 1;have p2:=Qq ah 2;have cH:=k6.heap f.out.qe id;have n0:=Qq cH 0;simp at n0 p0 p1 p2))
      obtain⟨A,bk,bl,_,_,bm,bp,bo,au,bi,_,dE,av⟩:=f.out;obtain⟨_,aG⟩:=Fw.ofV (y:=T.put z.n) Q bO;have aK:=Qz (i:=2) (u:=.slice o7 n7 c7) (Qz (i:=1) (u:=.int .u64 T.width) (Qz (i:=0) (u:=.int .u64 (T.put z.n).low) Q));rw[av]at aG;have aZ:=bO.block Q (by decide) aG;have bY:∀c,(DN af t.length tc).ownBlock=AF c->¬(DN o7 n7 c7).ownBlock=AF c:=λc U h2=>by
       obtain⟨_,aO,hz⟩:=((A.no k6).nums).kind c U;have:=Qt hz;have:=cn c h2;omega
      have ap:=aZ.lt;have cO:=k6.then k7;have aQ:=aG.heap cz (λe=>by have e:wr.heap.size=E:=e;omega);have aA:=A.no cO;have Y:w.heap.size<=E:=A.new;have aD:=aA.nums.keep aG (λb hb e=>by
       obtain⟨_,aO,hz⟩:=aA.nums.kind b hb;have e:b=E:=e;rw[e,Q]at hz
       simp at hz)
      have aB:=aA.bytes.keep aG (λb hb e=>by
       obtain⟨_,aO,hz⟩:=Qa aA.bytes b hb;have e:b=E:=e;rw[e,Q]at hz
       simp at hz)
      have az:=(bm.no cO).keep (F:=(·=E)) (λc hc=>by have hc:c=E:=hc;subst hc;exact⟨BF S.out.qc Y,Qt Q,λcs fr e=>by rw[Q]at e;simp at e⟩) aG;have kZ:Xy No w _:=aA.kp.absorb aG (λc e=>by have e:c=E:=e;omega);obtain⟨Z,hZ⟩:∃Z,Z=((w7.setCell ⟨E,0,AI⟩ (.int .u64 (T.put z.n).low)).setCell ⟨E,1,AI⟩ (.int .u64 T.width)).setCell ⟨E,2,AI⟩ (.slice o7 n7 c7):=⟨_,rfl⟩;rw[<- hZ]at aK aZ ap aG aQ aD aB az kZ⊢;have aK:Z.heap[E]?=AF (.cells #[.int .u64 (T.put z.n).low,.int .u64 (T.put z.n).width,.slice o7 n7 c7] 164 (0,0)):=by rw[av];simpa using aK
      have z0:=Qq aQ 0;have z1:=Qq aQ 1;have z2:=Qq aQ 2;simp at z0 z1 z2;have ao:∀b,(DN af t.length tc).ownBlock=AF b->¬wr.heap.size=b:=λb hb e=>by
       obtain⟨_,aO,hz⟩:=aD.kind b hb;rw[<- e,aQ]at hz;simp at hz
      have HZ:=BX (A7 (A4 aK aZ bY ap) aD aB az kZ aQ ao);have f:=BX (A7 bk bl bp bo au bi Y);clear aK aZ bY ap cn aG aD aB az kZ aQ ao aA A bk bl bm bp bo au bi dE av Y cO cz Q bO cH ah n0 p0 p1 p2 q0 q1 q2 fq hZ dV dW dX e0 e1 e2 aL k6 k7;have kd:Xy (λb=>(DN af t.length tc).ownBlock=AF b) Z Z.drew:=(Xy.refl _ _).drew;refine Ql (λw'=>Xy (λb=>(DN af t.length tc).ownBlock=AF b) Z w') [0,1,2,5,6] [3,4,7] [8,9,10,11] (by kernel_rfl) (by kernel_rfl) (λ_ _ _ _ _ h=>h) kd ?_;iterate 5(refine Qk (v:=?_) rfl rfl rfl ?_ ?_;rotate_left;focus(
       intro w' hS;have y0:=hS.cell z0 (λe=>HZ.out.rg _ e rfl);have y1:=hS.cell z1 (λe=>HZ.out.rg _ e rfl);have y2:=hS.cell z2 (λe=>HZ.out.rg _ e rfl);go_simp
       try with_reducible rfl))
      refine Qj ?_;refine Qx rfl rfl (λK I=>?_);go_simp;have kN:=((Xy.refl No Z).drew).alloc (.cells #[.int .u64 z.n] 27);have hN:=Qy Z.drew (.cells #[.int .u64 z.n] 27);refine I _ _ kN.no ?_;clear I K;refine Qx rfl rfl (λK I=>?_);have C:=HZ.out.2.1.keep kN (λ_ _ e=>e);refine QN _ _ rfl C rfl hN rfl (by have:=f.out.2.2.2.2.1.1;simp;omega) (BF HZ.out.2.2.2.2.1.size kN.size) ?_;intro eF eE w8 dA k8 dB;have bD:=kN.no.trans k8 (λ_ _ e=>e);refine I _ _ bD ?_;clear I K;have cZ:Uz base (Z.drew.alloc (.cells #[.int .u64 z.n] 27)) (λb=>(DN af t.length tc).ownBlock=AF b):=λc hc=>by
       obtain⟨U,aO,dP⟩:=C.kind c hc;exact⟨BF S.out.qc U,Qt dP,λcs fr e=>by rw[dP]at e;simp at e⟩
      have br:=(HZ.out.2.2.2.1.no kN).keep cZ k8;have bb:=(HZ.out.2.2.1.keep kN (λ_ _ e=>e)).keep k8 (λc hc e=>by
       obtain⟨_,aO,hz⟩:=C.kind c e;obtain⟨_,dk,bT⟩:=Qa (HZ.out.2.2.1.keep kN (λ_ _ e=>e)) c hc
       rw[hz]at bT;simp at bT)
      have ad:ban.top<=w8.heap.size:=BF S.out.qd (BF HZ.out.2.2.2.2.1.size bD.size);have dK:w.heap.size<=w8.heap.size:=BF HZ.out.2.2.2.2.1.size bD.size;refine Qx rfl rfl (λK I=>?_);go_simp;refine(Oz br f.out.qc ad).mono ?_;rintro e w9⟨v9,rfl,bJ,k9⟩;have dT:=bD.then k9;refine I _ _ dT ?_;clear I K;have bq:=k9.size;have dG:=Ko ((bb.keep k9 (λ_ _ e=>e)).bytes (base:=base) (λ_=>S.out.qd)) (bJ.bytes (base:=base) (λ_=>ad));have cv:=Vo f.out.2.2.2.2.1.2;have dQ:=Vo (l:=[z]) (N:=40) (λx hx=>by rw[AZ.1 hx];exact⟨f.out.qc,f.out.qd⟩);have dR:z.bytes.length<=61:=by simpa[Qb]using dQ
      have R:=Xv dG (by have:=f.out.2.2.2.2.1.1;simp;omega);have he:[Qb t,z.bytes].flatten=Qb (t++[z]):=by simp[Qb]
      rw[he]at R;obtain⟨o9,c9,e9⟩:=bJ.form;obtain⟨l9,cu⟩:∃l9,l9=z.bytes.length:=⟨_,rfl⟩;rw[<- cu]at e9;subst e9;obtain⟨lb,al⟩:∃lb,lb=(Qb t).length:=⟨_,rfl⟩;rw[<- al]at R⊢;have kB:=(Xy.refl No w9).alloc (.cells #[.slice po lb pc,.slice o9 l9 c9] 59);have HY:=BX (A8 dA k8 dB kN dK bq k9 kB);clear dA k8 dB kN dK ad bq k9 kB br bb cZ C dG cv dQ dR he bJ cu al hN kd bD dT;refine Qh (Qu rfl (Qu rfl (Qu rfl (Qu rfl (Qm ?_)))));go_wp2_with fail;refine R.mono ?_;rintro e eG⟨eC,rfl,aV,dS⟩;obtain⟨eB,dp,cT⟩:=aV.form;obtain⟨dU,ak⟩:∃dU,dU=(Qb (t++[z])).length:=⟨_,rfl⟩;rw[<- ak]at cT;subst cT;have bW:=BX (A3 aV dS ak);clear aV dS ak R;go_wp2_with fail;go_roundw;case rel =>
       have ab:=(HY.out.2.2.2.2.2.2.1.then HY.out.rh).then bW.out.2.1;refine⟨k+1,by congr 1,by have:=f.out.1;omega,?_⟩;rw[f.out.2.1];refine⟨?_,?_,?_,?_,f.out.rg⟩
       ·have h8:=HY.out.1.no ab;rw[D6]at h8;rw[O5];exact h8
       ·exact bW.out.1.mono (by have:=HY.out.qe;have:=HY.out.qf;have:=HY.out.2.2.2.2.2.2.2.size;omega)
       ·obtain⟨dd,bT,dO,de⟩:=HZ.out.1;have C:=HZ.out.2.1.keep HY.out.qd (λ_ _ e=>e);have bs:=HY.out.2.2.2.1.heap dd id;rw[f.out.qf,BO];refine⟨o7,n7,c7,ab.heap (HY.out.2.1.heap bs (λe=>?_)) id,(((bT.no HY.out.qd).keepN HY.out.2.1 (λb hb e=>dO b e hb)).no ab).mono (by simp;omega),λc hc e=>?_⟩
        ·obtain⟨_,aO,hz⟩:=C.kind _ e;rw[bs]at hz;simp at hz
        ·rcases HY.out.qc c (by simpa[DK]using hc)with U|U
         ·exact dO c U e
         ·have U:(Z.drew.alloc (.cells #[.int .u64 z.n] 27)).heap.size<=c:=U;have:=de c e;have:=HY.out.2.2.2.1.size;omega
       ·exact((HZ.out.2.2.2.2.1.then HY.out.qd).absorb HY.out.2.1 (λc e=>((HZ.out.2.1.keep HY.out.qd (λ_ _ e=>e)).kind c e).1)).then ab
      case measure=>have:=f.out.1;simp[intOf];omega
    ·have cD:k=l.length:=by omega
     have cE:¬(k:Int)<(l.length:Int):=by omega
     rename AC=>w8
     have ae:t=pick y l:=by rw[ht,cD,DU (BE _)]
     have H:(t.map (·.n)).length=t.length:=by simp
     have aM:t.length<=8/\∀x∈t,x.Right/\x.s.body.length<=40:=by rw[ae];have hs:=Xi y l;exact⟨BF hs.length_le HP.out.qd,λx hx=>⟨HP.out.2.1 x (hs.subset hx),HP.out.qe x (hs.subset hx)⟩⟩
     rw[H]at A⊢;have aJ:=S.out.qf;rw[<- ae]at aJ;have aY:=ac.out.2;by_cases aC:t=[]/\y=g.now
     ·obtain⟨U,h2⟩:=aC;have dC:pr=AI:=by rw[aJ,if_pos ⟨U,h2⟩]
      obtain rfl:sn=false:=by rw[aY];simp[h2]
      have f:=BX (A4 A dC ae U);have cU:((t.length:Nat):Int)=0:=by rw[U];rfl
      have dt:(((t.length:Nat):Int)==0)=true:=by rw[cU];rfl
      clear A dC ae U h2 aJ aY cD J hk ht aM H cU;go_wp2_with fail;go_ret2;have aI:cc=0:=by rw[HC.out.1,f.out.2.1];rfl
      have an:nl=[]:=by rw[HC.out.2,if_pos aI,<- f.out.qc,f.out.2.2.2];rfl
      subst aI;refine⟨.slice AI 0 0,rfl,?_,?_⟩
      ·rw[an];exact Uo.nil _ _
      ·rw[f.out.2.1];exact f.out.1.kp
     ·have cJ:pr=AF (.put a b t):=by rw[aJ,if_neg aC]
      have aR:=S.out.qe;have bx:=S.out.qg;rw[cJ]at aR bx;have cl:(((t.length:Nat):Int)==0)=false\/((((t.length:Nat):Int)==0)=true/\sn=true):=by
       by_cases h0:t=[]
       ·right;refine⟨by rw[h0];rfl,?_⟩;rw[aY];simp;exact λe=>aC ⟨h0,e⟩
       ·left;have:=List.length_pos_iff.2 h0;simp;omega
      have bX:=S.out.ri;have aH:=HP.out.qc;have ar:(Ji.put a b t).bytes.length<=600:=by have U:=Vo aM.2;have h2:=Qp (n:=a) (by omega);have h3:=Qp (n:=b) (by omega);have h4:=Qp (n:=t.length) (by omega);simp only[Ji.bytes,AT,BO];omega
      have f:=BX (A9 A (aR _ rfl) (bx _ rfl) cJ ae aM aH bX ar);clear A aR bx cJ ae aJ aY cD J hk ht H aH bX ar aC;have dn:((t.length:Nat):Int)<=8:=by have:=aM.1;omega
      have dz:IntKind.u64.wrap ((t.length:Nat):Int)=((t.length:Nat):Int):=by rw[wraps_u64 _ (by omega) (by omega)]
      clear aM;go_upto_region 21 with fail;go_cut [99] (λdj wx=>dj=.bool false/\w8=wx);case first =>
       rcases cl with h0|⟨h0,rfl⟩
       ·go_wp2_with fail;go_meet;exact⟨rfl,rfl⟩
       ·go_wp2_with fail;go_meet;exact⟨rfl,rfl⟩
      case rest =>
       obtain⟨rfl,rfl⟩:=hcut;have dw:IntKind.u64.wrap (a:Int)=(a:Int):=by have:=f.out.qh;rw[wraps_u64 _ (by omega) (by omega)]
       go_upto_region 23 with fail;have kb:=(Xy.refl No w8).alloc (.cells #[.int .u8 3] 5);have cj:=Vc w8 3 (by decide);have ad:ban.top<=w8.heap.size:=BF S.out.qd f.out.1.kp.size;have cw:DJ Tryz.prog 98 #[.int .u64 a] (w8.alloc (.cells #[.int .u8 3] 5)) _:=Jo 9 a (by have:=f.out.qh;omega) (by have:=f.out.qh;omega) _;have HB:=BX (A3 kb cj ad);clear kb cj ad;go_wp2_with fail;refine cw.mono ?_;rintro e u1⟨v1,rfl,bE,k1⟩;obtain⟨o1,c1,e1⟩:=bE.form;obtain⟨l1,cF⟩:∃l1,l1=(numB a).length:=⟨_,rfl⟩;rw[<- cF]at e1;subst e1;have H1:=BX (A3 bE k1 cF);clear bE k1 cF cw;have bR:DJ Tryz.prog 98 #[.int .u64 b] u1 _:=Jo 9 b (by have:=f.out.qg;omega) (by have:=f.out.qg;omega) _;go_wp2_with fail;refine bR.mono ?_;rintro e u2⟨v2,rfl,bF,k2⟩;obtain⟨o2,c2,e2⟩:=bF.form;obtain⟨l2,cG⟩:∃l2,l2=(numB b).length:=⟨_,rfl⟩;rw[<- cG]at e2;subst e2;have H2:=BX (A3 bF k2 cG);clear bF k2 cG bR;have cx:DJ Tryz.prog 98 #[.int .u64 t.length] u2 _:=Jo 9 t.length (by omega) (by omega) _;go_wp2_with fail;refine cx.mono ?_;rintro e u3⟨v3,rfl,bG,k3⟩;have kn:Xy No w8 u3:=((HB.out.1.then H1.out.2.1).then H2.out.2.1).then k3;have cV:=((((HB.out.2.1.keep H1.out.2.1 (λ_ _ e=>e)).keep H2.out.2.1 (λ_ _ e=>e)).keep k3 (λ_ _ e=>e))).bytes (base:=base) (λ_=>HB.out.2.2);have cW:=((H1.out.1.keep H2.out.2.1 (λ_ _ e=>e)).keep k3 (λ_ _ e=>e)).bytes (base:=base) (λ_=>BF HB.out.2.2 HB.out.1.size);have cX:=(H2.out.1.keep k3 (λ_ _ e=>e)).bytes (base:=base) (λ_=>BF HB.out.2.2 (HB.out.1.then H1.out.2.1).size);have cY:=bG.bytes (base:=base) (λ_=>BF HB.out.2.2 ((HB.out.1.then H1.out.2.1).then H2.out.2.1).size);have he:[[D7 3],numB a,numB b,numB t.length].flatten++Qb t=(Ji.put a b t).bytes:=by simp[Ji.bytes]
       obtain⟨hd,bQ⟩:∃hd,hd=[[D7 3],numB a,numB b,numB t.length].flatten:=⟨_,rfl⟩;have cm:hd.length<=600:=by rw[<- bQ]at he;have U:=congrArg FA he;rw[BO]at U;have:=f.out.ri;omega
       have R:=Xv (MQ cV cW cX cY) (by rw[<- bQ];omega);rw[<- bQ]at R he;obtain⟨o3,c3,e3⟩:=bG.form;obtain⟨l3,co⟩:∃l3,l3=(numB t.length).length:=⟨_,rfl⟩;rw[<- co]at e3;subst e3;have kC:=kn.alloc (.cells #[.slice (AF ⟨w8.heap.size,0,AI⟩) 1 1,.slice o1 l1 c1,.slice o2 l2 c2,.slice o3 l3 c3] 59);have H3:=BX (A3 kC he cm);clear bG k3 kn cV cW cX cY co kC bQ he cm cx;go_wp2_with fail;refine R.mono ?_;rintro e u4⟨v4,rfl,bH,k4⟩;obtain⟨o4,c4,e4⟩:=bH.form;obtain⟨l4,cq⟩:∃l4,l4=hd.length:=⟨_,rfl⟩;rw[<- cq]at e4;subst e4;have cP:=H3.out.1.then k4;have aU:=f.out.1.kp.then cP;have ax:=f.out.1.no cP;have bK:=aU.cell bK id;have bL:=aU.cell bL id;have dD:¬p=q:=λe=>S.out.1.mem.ne e.symm;have bu:=BF S.out.qd aU.size;have ch:=bH.bytes (base:=base) (λ_=>BF HB.out.2.2 H3.out.1.size);have cC:=ax.bytes.bytes (base:=base) (λ_=>S.out.qd);obtain⟨lb,al⟩:∃lb,lb=(Qb t).length:=⟨_,rfl⟩;rw[<- al]at cC⊢;have aW:∀(X:AC) (v:AM),Xy No u4 X->Qv base X v (Ji.put a b t).bytes->DJ Tryz.prog 96 #[.pointer (AF ⟨q,0,AI⟩),.int .i64 size,v] X λe w'=>∃(nx:Int) (bV:AM),e=.returned (.tuple #[.int .u64 nx,.int .i64 c])/\Zs base w' q bV x'/\Xy (·=q) X w'/\∀b,bV.ownBlock=AF b->lv.ownBlock=AF b\/X.heap.size<=b:=by intro X v kX hv;have hR:=S.out.1.no (aU.then kX);have:=hR.app (BF S.out.qc (aU.then kX).size) (BF bu kX.size) hv (by have:=f.out.ri;omega);rw[f.out.2.1]at this;exact this.mono (λe w' ⟨bV,U,h2,h3,h4⟩=>⟨_,bV,U,h2,h3,h4⟩)
       have HX:=BX (A6 aU ax bu ch cC aW);clear R bH k4 cq cP aU ax bu ch cC aW al;go_upto_region 24 with fail;have kd:Xy No u4 u4.drew:=(Xy.refl _ _).drew;have df:Xy (·=q) u4 u4.drew:=kd.no;go_cut [21,22] (λeD di wx=>di=.int .i64 c/\Ho base w p q lv x' width size safe wx/\Uo wx w.heap.size (.slice af t.length tc) (t.map (·.n)));case first =>
        refine ZM (λw'=>Xy (·=q) u4 w') [(AI,[0,1,2,3,4,5,6,7,8,9],[10,11,12,13]),(AI,[14,15],[16,17])] (by kernel_rfl) (by kernel_rfl) (λ_ _ _ _ _ h=>h) df (Jz ?_);iterate 10(refine Qk (v:=?_) rfl rfl rfl ?_ ?_;rotate_left;focus(
         intro w' hS;have d1:=hS.cell bK dD;have d2:=hS.cell bL dD;go_simp
         try with_reducible rfl))
        refine Qj ?_;refine Qx rfl rfl (λK I=>?_);go_simp;have kS:=kd.alloc (.cells #[.slice o4 l4 c4,.slice po lb pc] 59);refine I _ _ kS.no ?_;clear I K;have R:=Xv (Ko (HX.out.2.2.2.1.no kd) (HX.out.2.2.2.2.1.no kd)) (by have:=f.out.ri;have U:=congrArg FA H3.out.2.1;rw[BO]at U;simp;omega);have he:[hd,Qb t].flatten=(Ji.put a b t).bytes:=by rw[<- H3.out.2.1];simp
        rw[he]at R;refine Qx rfl rfl (λK I=>?_);go_simp;refine R.mono ?_;rintro e w6⟨v6,rfl,bI,k6⟩;have bU:=kS.then k6;refine I _ _ bU.no ?_;clear I K;have aW:=HX.out.rf w6 _ bU (bI.bytes (base:=base) (λ_=>BF HX.out.qc kS.size));obtain⟨o6,c6,e6⟩:=bI.form;obtain⟨l6,cr⟩:∃l6,l6=(Ji.put a b t).bytes.length:=⟨_,rfl⟩;rw[<- cr]at e6;subst e6;clear cr bI R he;refine Qx rfl rfl (λK I=>?_);go_simp;refine aW.mono ?_;rintro e w7⟨nx,eA,rfl,dc,k7,o7⟩;have bC:Xy (·=q) u4 w7:=bU.no.trans k7 (λ_ _ e=>e);refine I _ _ bC ?_;clear I K;refine Qx rfl rfl (λK I=>?_);go_simp;refine I _ _ bC ?_;clear I K;refine Qh (Jz ?_);iterate 2(refine Qk (v:=?_) rfl rfl rfl ?_ ?_;rotate_left;focus(
         intro w' hS;go_simp
         try with_reducible rfl))
        refine Qj ?_;refine Qx rfl rfl (λK I=>?_);go_simp;refine I _ _ bC ?_;clear I K;refine Qx rfl rfl (λK I=>?_);go_simp;refine I _ _ bC ?_;clear I K;refine Qh (Mv ?_);go_wp2_with fail;go_meet;refine⟨rfl,S.out.1.wrote (HX.out.1.then bU) dc k7 o7,?_⟩;have cy:=HX.out.2.1.nums;exact cy.keep bC (λb hb e=>by
         obtain⟨U,aO,hz⟩:=cy.kind b hb;have e:b=q:=e;have h2:=Qt S.out.1.mem.rdisk.blk
         omega)
       case rest =>
        obtain⟨rfl,dM,dY⟩:=hcut
        rename AC=>w9
        have ck:c=0\/c=5:=by
         have U:=f.out.2.1;rcases Md x (Uj (Ku size ss)).n (appB (Ku size ss) (Ji.put a b t).bytes)with h2|h2
         ·rw[U]at h2;exact .inr h2.2
         ·rw[U]at h2;exact .inl h2
        rcases ck with rfl|rfl
        ·go_wp2_with fail;go_ret2;have aI:cc=0:=by rw[HC.out.1,f.out.qd];rfl
         have an:nl=t.map (·.n):=by rw[HC.out.2,if_pos aI,<- f.out.qe]
         rw[f.out.qd];subst aI;refine⟨_,rfl,?_,dM⟩;rw[an];exact dY
        ·go_wp2_with fail;go_ret2;have aI:cc=5:=by rw[HC.out.1,f.out.qd];rfl
         have an:nl=[]:=by rw[HC.out.2,if_neg (by rw[aI];decide)]
         rw[f.out.qd];subst aI;refine⟨_,rfl,?_,dM⟩;rw[an];exact Uo.nil _ _
def Vx (r q:Nat)(lv:AM):Nat->Prop:=λb=>b=r\/b=q\/lv.ownBlock=AF b
section
variable [bn:Ib]{base:Nat}{w w':AC}{r xq:Nat}{lvd:AM}{x:Qn}{width:Nat}{size safe:Int}
theorem Jg.kindD(h:Jg base w r xq lvd x width size safe)(f:Vx r xq lvd b):base<=b/\∃cs t,w.heap[b]?=AF (.cells cs t (0,0))/\(t=157\/t=119\/t=244):=by
 rcases f with rfl|rfl|f
 ·exact⟨h.pb,_,_,h.blk,.inl rfl⟩
 ·exact⟨h.rdisk.qb,_,_,h.rdisk.blk,.inr (.inl rfl)⟩
 ·obtain⟨k,i,o⟩:=h.rdisk.calls.kind b f;exact⟨k,_,_,o,.inr (.inr rfl)⟩
theorem Jg.footD(h:Jg base w r xq lvd x width size safe):Uz base w (Vx r xq lvd):=λb z=>by
 obtain⟨o,cs,t,i,f⟩:=h.kindD z
 refine⟨o,Qt i,λk fr e=>?_⟩
 rw[i]at e
 simp at e
 obtain⟨_,rfl,_⟩:=e
 rcases f with f|f|f<;>simp at f
theorem Jg.footDR(h:Jg base w r xq lvd x width size safe):Zn w (Vx r xq lvd):=by rintro b k⟨i,fr,e⟩;obtain⟨z,cs,t,o,f⟩:=h.kindD k;rw[o]at e;simp at e;obtain⟨_,rfl,_⟩:=e;rcases f with f|f|f<;>simp at f
theorem Jg.keepD(h:Jg base w r xq lvd x width size safe)(hF:Uz base w F)(k:Xy F w w')(f:∀b,Vx r xq lvd b->¬F b):Jg base w' r xq lvd x width size safe :=
 ⟨k.heap h.blk (f r (.inl rfl)),⟨k.heap h.rdisk.blk (f xq (.inr (.inl rfl))),h.rdisk.calls.keep hF k (λb i=>f b (.inr (.inr i))),h.rdisk.qb⟩,h.pb⟩
theorem Rc(C:Zc base w q g m lv p n s wv sgv rlv o A ss ts d L)(h:Jg base w r xq lvd x width size safe):∀b,Vx r xq lvd b->¬Qi q g m lv p n s wv sgv rlv b:=by
 intro b G k;obtain⟨_,cs,t,z,i⟩:=h.kindD G;rcases k with k|k|k
 ·obtain⟨_,F⟩:=C.led.kind k;rcases F with⟨D,H,e,f⟩|⟨es,clock,e⟩
  ·rw[z]at e;simp at e;obtain⟨_,rfl⟩:=e;rcases i with rfl|rfl|rfl<;>rcases f with f|f<;>simp at f
  ·rw[z]at e;cases e
 ·rcases k with rfl|rfl|rfl|k
  ·have e:=C.dk.blk;rw[z]at e;simp at e;obtain⟨_,rfl⟩:=e;rcases i with i|i|i<;>simp at i
  ·obtain⟨_,_,e,_⟩:=C.dk.now;rw[z]at e;cases e
  ·obtain⟨_,_,e,_⟩:=C.dk.safe;rw[z]at e;cases e
  ·obtain⟨_,E,e⟩:=C.dk.wait.kind b k;rw[z]at e;simp at e;obtain⟨_,rfl⟩:=e;rcases i with i|i|i<;>simp at i
 ·obtain⟨_,D,H,e,f⟩:=C.lg.kind k;rw[z]at e;simp at e;obtain⟨_,rfl⟩:=e;rcases i with rfl|rfl|rfl<;>rcases f with f|f|f<;>simp at f
end
structure Gr (width:Nat)(ts:List Ji)(cnt:Nat)(L:Xs):Prop where
 le:cnt<=ts.length
 recs:L.recs.take L.safe=(told width (ts.take cnt)).recs
 ags:L.ag.map (·.safe)=(told width (ts.take cnt)).ag.map (·.now)
theorem Gr.sync(h:Jc width ts L):Gr width ts ts.length L.sync:=by
 refine⟨BE _,?_,?_⟩
 ·rw[BZ,<- h.recs];show L.recs.take L.recs.length=L.recs;exact BZ
 ·rw[BZ];have f:=congrArg (List.map Prod.snd) h.now;unfold Xs.now at f;rw[LI,LI]at f;show(L.ag.map (λg=>{g with safe:=g.now})).map (·.safe)=_;rw[LI];exact f
theorem Af{α β:Type}{l:List α}{f:α->α}{g:α->β}(h:∀x,g (f x)=g x):(l.modify a f).map g=l.map g:=by
 apply List.ext_getElem?;intro i;rw[CK,CK,List.getElem?_modify];cases l[i]? with
 | none=>rfl
 | some x =>
  by_cases hi:a=i
  ·simp[hi,h]
  ·simp[hi]
theorem Gr.push(h:Gr width ts cnt L)(r:Ji)(f:L.safe<=L.recs.length):Gr width (ts++[r]) cnt (L.step r):=by
 have e:(ts++[r]).take cnt=ts.take cnt:=E2 h.le;refine⟨by have:=h.le;simp;omega,?_,?_⟩
 ·rw[e,<- h.recs];cases r with
  | inc n=>rfl
  | floor a n=>rfl
  | put a b l =>
   show(L.recs++_).take L.safe=_;rw[E2 f]
 ·rw[e,<- h.ags];cases r with
  | inc n=>rfl
  | floor a n=>exact Af (λ_=>rfl)
  | put a b l=>exact Af (λ_=>rfl)
theorem Ss(h:Sx j cnt (Zk ts) ss d x)(C:j<=999)(size:Int)(L:Xs)(r:Ji)(A:r.bytes.length<=1000) :
  ∃c ss' ts' d' x' L',Ha c size ss ts d L r ss' ts' d' L'/\x.append (Uj (Ku size ss)).n (appB (Ku size ss) r.bytes)=(x',c)/\Sx (j+1) cnt (Zk ts') ss' d' x'/\((c=0/\ts'=ts++[r]/\L'=L.step r)\/(c=5/\ts'=ts/\L'=L)):=by
 obtain⟨_,k⟩:=h.rel.append (Uj (Ku size ss)).n (appB (Ku size ss) r.bytes);rcases h.code (Uj (Ku size ss)).n (appB (Ku size ss) r.bytes)with f|f
 ·obtain⟨ss',i,z⟩:=h.append (by omega) size r.bytes A f;refine⟨0,ss',ts++[r],(d.append (Uj (Ku size ss)).n (appB (Ku size ss) r.bytes)).1,(x.append (Uj (Ku size ss)).n (appB (Ku size ss) r.bytes)).1,L.step r,⟨PV rfl f,.inl ⟨rfl,i,rfl,rfl⟩⟩,PV rfl (by rw[<- k];exact f),?_,.inl ⟨rfl,rfl,rfl⟩⟩;have e:Zk (ts++[r])=Zk ts++[r.bytes]:=by simp[Zk]
  rw[e];exact z
 ·have o:(x.append (Uj (Ku size ss)).n (appB (Ku size ss) r.bytes)).2=5:=by rw[<- k];exact f
  exact⟨5,ss,ts,d,x,L,⟨PV (Ex f) f,.inr ⟨rfl,rfl,rfl,rfl⟩⟩,PV (Po o) o,h.mono (by omega),.inr ⟨rfl,rfl,rfl⟩⟩
def Hm (width:Nat)(ts:List Ji):Prop:=∀k,k<=ts.length->(told width (ts.take k)).recs.length<=8*k/\(told width (ts.take k)).inc<=k
theorem Hm.push(h:Hm width ts)(r:Ji)(A:((told width ts).step r).recs.length<=(told width ts).recs.length+8)(C:((told width ts).step r).inc<=(told width ts).inc+1):Hm width (ts++[r]):=by
 intro k z;by_cases i:k<=ts.length
 ·rw[E2 i];exact h k i
 ·have f:k=ts.length+1:=by simp at z;omega
  subst f;have e:(ts++[r]).take (ts.length+1)=ts++[r]:=DU (by simp);have o:=h ts.length (BE _);rw[BZ]at o;rw[e,Vv];omega
theorem Hm.take(h:Hm width ts)(n:Nat):Hm width (ts.take n):=λk f=>by
 rw[List.length_take]at f
 rw[List.take_take,Nat.min_eq_left (by omega)]
 exact h k (by omega)
section
variable [bn:Ib]{base:Nat}{w w':AC}{P q g m p n s r xq width j cnt:Nat}{lv wv sgv rlv lvd:AM}{size:Int}{ss:List Jh}{ts:List Ji}{d:Qr}{x:Qn}{L:Xs}
end
section
variable [bn:Ib]{base:Nat}{w w1 w1' w2:AC}{P q g m p n s r xq width j cnt:Nat}{lv wv sgv rlv lvd:AM}{size:Int}{ss ss':List Jh}{ts ts':List Ji}{d d':Qr}{x x':Qn}{L L':Xs}
end
section
variable [bn:Ib]{base:Nat}{w:AC}{P q g m p n s r xq width j cnt:Nat}{lv wv sgv rlv lvd:AM}{size:Int}{ss:List Jh}{ts:List Ji}{d:Qr}{x:Qn}{L:Xs}
end
theorem JD{L:Xs}(h:L.putR a b l=AF r)(C:Yv b l=true)(H:a<16)(A:l.length<=8)(i:∀x∈l,x.s.body.length<=40) :
  r.bytes.length<=600/\(L.step r).recs.length<=L.recs.length+8/\(L.step r).inc=L.inc/\(L.step r).safe=L.safe:=by
 unfold Xs.putR at h
 split at h
 ·cases h
 ·simp only[Option.some.injEq]at h;subst h;obtain⟨f,I⟩:=(Jm b l).1 C;have k:=Xi ((L.win a).skip b) l;have o:=k.length_le;generalize pick ((L.win a).skip b) l=t at *;have D:=Vo (l:=t) (N:=40) (λx z=>⟨f x (k.subset z),i x (k.subset z)⟩);have E:=Qp (n:=a) (by omega);have F:=Qp (n:=b) (by omega);have G:=Qp (n:=t.length) (by omega);refine⟨by simp only[Ji.bytes,AT,BO];omega,?_,rfl,rfl⟩;show(L.recs++t.map _).length<=_;rw[BO,D6];omega
section
variable [bn:Ib]{base B0:Nat}{w:AC}{P q g m p n s r xq width j cnt:Nat}{lv wv sgv rlv lvd iv:AM}{size:Int}{ss:List Jh}{ts:List Ji}{d:Qr}{x:Qn}{L:Xs}{l:List Qc}
end
section
variable [bn:Ib]{base:Nat}{w w' W:AC}{P q g m p n s r xq width j cnt:Nat}{lv wv sgv rlv lvd:AM}{size:Int}{ss:List Jh}{ts:List Ji}{d:Qr}{x:Qn}{L:Xs}{B:Nat->Prop}
end
section
variable [bn:Ib]{base:Nat}{w0 w w' W:AC}{P q g m p n s r xq width j cnt:Nat}{lv wv sgv rlv lvd:AM}{size:Int}{ss:List Jh}{ts:List Ji}{d:Qr}{x:Qn}{L:Xs}
end
section
variable [bn:Ib]{base:Nat}{w w' W:AC}{P q g m p n s r xq width j cnt:Nat}{lv wv sgv rlv lvd:AM}{size:Int}{ss:List Jh}{ts:List Ji}{d:Qr}{x:Qn}{L:Xs}
theorem Zs.full16{q:Nat}{lv:AM}(h:Zs base w q lv x)(on:Bool):Zs base (w.setCell ⟨q,1,AI⟩ (.bool on)) q lv {x with full:=on}/\Xy (·=q) w (w.setCell ⟨q,1,AI⟩ (.bool on)):=by
 have k:Xy (·=q) w (w.setCell ⟨q,1,AI⟩ (.bool on)):=Qd _ _;have hF:Uz base w (·=q):=λb e=>by
  have e:b=q:=e;subst e;exact⟨h.qb,Qt h.blk,λcs fr e=>by have:=h.blk;rw[this]at e;simp at e⟩
 refine⟨⟨by simpa using Qz (i:=1) (u:=.bool on) h.blk,h.calls.keep hF k (λb z e=>?_),h.qb⟩,k⟩;obtain⟨_,o,f⟩:=h.calls.kind b z;have e:b=q:=e;rw[e,h.blk]at f;simp at f
end
section
variable [bn:Ib]{base:Nat}{w:AC}{P q g m p n s r xq width j cnt:Nat}{lv wv sgv rlv lvd:AM}{size:Int}{ss:List Jh}{ts:List Ji}{d:Qr}{x:Qn}{L:Xs}
def Sr (base width:Nat)(size:Int)(j:Nat)(D:Qr)(X:Qn)(c:Int)(k:Nat)(h:List Jh)(f:List Ji)(i:Qr)(o:Qn)(L2:Xs):Prop :=
 (∀(w1:AC) (p n s:Nat) (wv:AM),Qo base w1 p n s wv D->base<=w1.heap.size->ban.top<=w1.heap.size->DJ Tryz.prog 20 #[.pointer (AF ⟨p,0,AI⟩),.agg #[.int .u64 width,.int .i64 size]] w1 (MK base w1 p n s wv width size c h f i L2)) /\
 (∀(w1:AC) (y:Nat) (z:AM),Zs base w1 y z X->base<=w1.heap.size->ban.top<=w1.heap.size->DJ Tryz.prog 50 #[.pointer (AF ⟨y,0,AI⟩),.int .u64 width,.int .i64 size] w1 (MH base w1 y z o width k size c)) /\
 (c=0->Sx (j+1) k (Zk f) h i.sync o.sync/\Gr width f k L2.sync/\Hm width f/\∀r∈f,r.bytes.length<=1000)
theorem Ix(h:Ha c size ss ts d L rc ss' ts' d' L')(i:c=5):d.full=true\/d.room<msum d.now+rc.bytes.length+20:=by
 have o:=Yz (Ku size ss) rc.bytes;have f:(d.append (Uj (Ku size ss)).n (appB (Ku size ss) rc.bytes)).2=5:=by rw[h.1];exact i
 unfold Qr.append at f
 split at f
 ·rename_i k;exact .inl k
 ·split at f
  ·rename_i z;right;omega
  ·simp at f
theorem UI(h:Ha c size ss ts d L rc ss' ts' d' L')(k:c=0):d'.full=d.full/\d'.room=d.room/\msum d'.now<=msum d.now+rc.bytes.length+20:=by
 have o:=Yz (Ku size ss) rc.bytes;have i:(d.append (Uj (Ku size ss)).n (appB (Ku size ss) rc.bytes)).2=0:=by rw[h.1];exact k
 have f:=Ej i;rw[h.1]at f;dsimp only at f;subst f;refine⟨rfl,rfl,?_⟩;have z:=Uv d.now (Uj (Ku size ss)).n (appB (Ku size ss) rc.bytes);show msum (Na d.now (Uj (Ku size ss)).n ((Uu d.now (Uj (Ku size ss)).n).getD []++appB (Ku size ss) rc.bytes))<=_;omega
theorem JM(F:Sx j k1 (Zk t1) aD D X)(E:Jc width t1 (told width t1))(C:∀r∈t1,r.bytes.length<=1000)(J:Hm width t1)(hj:j+1<=450)(O:1<=width/\width<=1024)(hz:1<=size) :
  ∃(c:Int) (k:List Jh) (o:List Ji) (z:Qr) (Q:Qn) (L2:Xs),(c=0\/c=5)/\Sr base width size j D X c (t1.length+1) k o z Q L2/\(c=0->o=t1++[.inc ((told width t1).inc+1)]/\L2=(told width t1).step (.inc ((told width t1).inc+1)))/\(c=5->D.full=true\/D.room<msum D.now+60)/\(c=0->z.full=D.full/\z.room=D.room/\msum z.now<=msum D.now+60):=by
 have aE:(Zk t1).length=t1.length:=by simp[Zk]
 have aB:t1.length<=900:=by have h1:=F.good.next;have h2:=F.next;omega
 have I:=J t1.length (BE _);rw[BZ]at I;have aF:=Qp (n:=(told width t1).inc+1) (by omega);have aG:(Ji.inc ((told width t1).inc+1)).bytes.length<=11:=by simp[Ji.bytes];omega
 obtain⟨c,k,o,z,Q,L2,i,V,A,f⟩:=Ss F (by omega) size (told width t1) (.inc ((told width t1).inc+1)) (by omega);refine⟨c,k,o,z,Q,L2,i.code,⟨λw1 p n s wv hd Y U=>NE hd F (by omega) E.can C (by omega) (by omega) O hz Y U i,λw1 y yv hd Y U=>?_,λG=>?_⟩,λG=>?_,λG=>?_,λG=>?_⟩
 ·have Z:(c=0/\Sx (j+1) k1 (Zk (t1++[.inc ((told width t1).inc+1)])) k z Q)\/c=5:=by
   rcases f with⟨h0,e,_⟩|⟨T,_⟩
   ·left;rw[e]at A;exact⟨h0,A⟩
   ·exact .inr T
  exact XN hd F (by omega) E.can C (by omega) O hz Y U V Z
 ·rcases f with⟨_,rfl,rfl⟩|⟨T,_⟩
  ·have H:(told width t1).can (.inc ((told width t1).inc+1)):=⟨Nat.lt_succ_self _,by omega⟩;have aC:=E.push H;have aA:(t1++[Ji.inc ((told width t1).inc+1)]).length=t1.length+1:=by simp
   have h8:=A.sync;have M:(Zk (t1++[Ji.inc ((told width t1).inc+1)])).length=t1.length+1:=by simp[Zk]
   rw[M]at h8;have N:=Gr.sync aC;rw[aA]at N;refine⟨h8,N,J.push _ (PW _ _) (BE _),λr K=>?_⟩;rcases CG.1 K with K|K
   ·exact C r K
   ·rw[AZ.1 K];omega
  ·omega
 ·rcases f with⟨_,R,S⟩|⟨T,_⟩
  ·exact⟨R,S⟩
  ·omega
 ·rcases Ix i G with h|h
  ·exact .inl h
  ·right;omega
 ·obtain⟨R,S,e3⟩:=UI i G;exact⟨R,S,by omega⟩
end
theorem VN:∀(l:List Qf) (k:Nat),Ri (l.drop k)<=Ri l:=by
 intro l
 induction l with
 | nil=>intro k;simp
 | cons c l f =>
  intro k;cases k with
  | zero=>exact BE _
  | succ k=>rw[List.drop_succ_cons];have:=f k;simp only[Ri];omega
theorem Sx.crashBounds{j cnt:Nat}(h:Sx j cnt all ss d x)(E:j<=900):msum d.safe+Ri d.wait<=1099511627776/\d.wait.length<=1000000/\x.l.length<=1000000/\x.l.length<=1000+x.l.length/\Ri x.l<=1099511627776/\0<=x.safe/\x.safe<=x.l.length:=by
 have i:=Jf.sum (Ve _).keys h.rel.ks h.rel.safe;have k:=Ud (x.l.take x.safe.toNat);have o:=Xe x.l x.safe.toNat;have f:=h.rel.wait;have z:=VN x.l x.safe.toNat;have A:=h.good.sum;have C:=h.good.len;have D:d.wait.length<=x.l.length:=by rw[f,List.length_drop];omega
 rw[f];exact⟨by omega,by rw[<- f];omega,by omega,by omega,by omega,h.rel.s0,h.rel.s1⟩
section
variable [bn:Ib]{base:Nat}{w W:AC}{P q g m p n s r xq width j cnt:Nat}{lv wv sgv rlv lvd:AM}{size:Int}{ss:List Jh}{ts:List Ji}{d:Qr}{x:Qn}{L:Xs}
theorem Td{b:Nat}{cs:Array AM}{t:TypeId}(f:w.heap[b]?=AF (.cells cs t (0,0)))(k:base<=b)(i:t≠5):Uz base w (·=b):=λc e=>by
 have e:c=b:=e
 subst e
 refine⟨k,Qt f,λh fr e=>?_⟩
 rw[f]at e
 simp at e
 exact i e.2.1
end
section
variable [bn:Ib]{base:Nat}{w:AC}{P q g m p n s r xq width j cnt:Nat}{lv wv sgv rlv lvd:AM}{size:Int}{ss:List Jh}{ts:List Ji}{d:Qr}{x:Qn}{L:Xs}
end
section
variable [bn:Ib]{base:Nat}{w0 w w' W:AC}{P q g m p n s r xq width j cnt:Nat}{lv wv sgv rlv lvd:AM}{size:Int}{ss:List Jh}{ts:List Ji}{d:Qr}{x:Qn}{L:Xs}
end
theorem Sx.start(room:Int)(f:0<=room)(h:room<=1000000):Sx 0 0 [] [] {room:=room,full:=false,now:=[],safe:=[],wait:=[]} {room:=room,full:=false,l:=[],safe:=0} :=
 ⟨⟨rfl,rfl,λ_=>rfl,λ_=>rfl,PX _,PX _,rfl,Hg.nil,Hg.nil⟩,Good.nil,Inv.nil _ (λ_=>⟨0,BE _,BE _,rfl,rfl⟩),rfl,rfl,BE _,f,h⟩
theorem TI[bn:Ib](base width:Nat)(size room:Int)(A:100<=room/\room<=1000000)(I:1<=width/\width<=1024)(J:1<=size) :
  ∃(f:List Jh) (i:Qr) (C:Qn),Sr base width size 0 {room:=max room 0,full:=false,now:=[],safe:=[],wait:=[]} {room:=room,full:=false,l:=[],safe:=0} 0 1 f [.inc 1] i C ((Xs.start width).step (.inc 1))/\i.full=false/\i.room=room/\msum i.now<=60:=by
 have e:max room 0=room:=by omega
 rw[e];have F:=Sx.start room (by omega) A.2;obtain⟨c,f,K,i,C,L2,G,z,D,E,o⟩:=JM (bn:=bn) (base:=base) (t1:=[]) (width:=width) (size:=size) (j:=0) (show Sx 0 0 (Zk []) [] _ _ from F) ⟨rfl,rfl,rfl,λk r A=>by simp at A⟩ (by simp) (λk H=>by
  obtain rfl:k=0:=by simpa using H
  exact⟨BE _,BE _⟩) (by omega) I J
 rcases G with rfl|rfl
 ·obtain⟨rfl,rfl⟩:=D rfl;exact⟨f,i,C,z,(o rfl).1,(o rfl).2.1,by have:=(o rfl).2.2;have h:msum ([]:Kk)=0:=rfl;rw[h]at this;omega⟩
 ·rcases E rfl with h|h
  ·simp at h
  ·have:msum ([]:Kk)=0:=rfl;dsimp only at h;rw[this]at h;omega
structure S16 where
 ss:List Jh
 ts:List Ji
 d:Qr
 x:Qn
 L:Xs
 cnt:Nat
structure Ue (width j:Nat)(S:S16):Prop where
 lg7:Sx j S.cnt (Zk S.ts) S.ss S.d S.x
 tls:Jc width S.ts S.L
 okL:S.L.Ok width
 few:∀r∈S.ts,r.bytes.length<=1000
 safe:Gr width S.ts S.cnt S.L
 sle:S.L.safe<=S.L.recs.length
 lit:Hm width S.ts
theorem Ue.mono(h:Ue width j S)(f:j<=k):Ue width k S:=⟨h.lg7.mono f,h.tls,h.okL,h.few,h.safe,h.sle,h.lit⟩
theorem Ue.many(h:Ue width j S)(o:j<=450):S.ts.length<=900/\S.L.recs.length<=8*S.ts.length/\S.L.inc<=S.ts.length:=by
 have i:=h.lg7.good.next;have k:=h.lg7.next;have e:(Zk S.ts).length=S.ts.length:=by simp[Zk]
 have f:=h.lit S.ts.length (BE _);rw[BZ,<- h.tls.recs,<- h.tls.inc]at f;exact⟨by omega,f.1,f.2⟩
def S5 (size:Int)(S:S16)(rc:Ji)(c:Int)(f:S16):Prop :=
 Ha c size S.ss S.ts S.d S.L rc f.ss f.ts f.d f.L/\S.x.append (Uj (Ku size S.ss)).n (appB (Ku size S.ss) rc.bytes)=(f.x,c)/\f.cnt=S.cnt
theorem Ue.write(h:Ue width j S)(U:j+1<=450)(size:Int)(H:S.L.can rc)(I:rc.bytes.length<=1000)(J:(S.L.step rc).recs.length<=S.L.recs.length+8)(hi:(S.L.step rc).inc<=S.L.inc+1)(A:(S.L.step rc).safe=S.L.safe) :
  ∃c C,S5 size S rc c C/\Ue width (j+1) C/\((c=0/\C.ts=S.ts++[rc]/\C.L=S.L.step rc/\C.cnt=S.cnt)\/(c=5/\C=S)):=by
 obtain⟨c,ss',ts',d',x',L',f,i,O,k⟩:=Ss h.lg7 (by omega) size S.L rc I;rcases k with⟨rfl,rfl,rfl⟩|⟨rfl,rfl,rfl⟩
 ·refine⟨0,⟨ss',S.ts++[rc],d',x',S.L.step rc,S.cnt⟩,⟨f,i,rfl⟩,⟨O,h.tls.push H,h.okL.step H,λr G=>?_,h.safe.push rc h.sle,?_,?_⟩,.inl ⟨rfl,rfl,rfl,rfl⟩⟩
  ·rcases CG.1 G with G|G
   ·exact h.few r G
   ·rw[AZ.1 G];exact I
  ·show(S.L.step rc).safe<=(S.L.step rc).recs.length;have R:=h.sle;have T:S.L.recs.length<=(S.L.step rc).recs.length:=(ZH S.L rc).length_le;rw[A];omega
  ·have E:=h.tls.recs;have o:=h.tls.inc;refine h.lit.push _ ?_ ?_
   ·have z:((told width S.ts).step rc).recs.length=(S.L.step rc).recs.length:=by
     have F:=congrArg FA E;clear f i A hi J I H;cases rc
     ·exact F.symm
     ·exact F.symm
     ·simp only[Xs.step,BO,D6];omega
    rw[z,<- E];exact J
   ·have z:((told width S.ts).step rc).inc=(S.L.step rc).inc:=by
     clear f i A hi J I H;cases rc
     ·rfl
     ·exact o.symm
     ·exact o.symm
    rw[z,<- o];exact hi
 ·have Q:=f.2;rcases Q with⟨N,_⟩|⟨_,rfl,_,_⟩
  ·exact absurd N (by decide)
  have K:d'=S.d:=by have D:=Ex (d:=S.d) (sn:=(Uj (Ku size S.ss)).n) (B:=appB (Ku size S.ss) rc.bytes) (by rw[f.1]);rw[f.1]at D;exact D
  have M:x'=S.x:=by have D:=Po (x:=S.x) (sn:=(Uj (Ku size S.ss)).n) (B:=appB (Ku size S.ss) rc.bytes) (by rw[i]);rw[i]at D;exact D
  subst K M;exact⟨5,S,⟨f,i,rfl⟩,h.mono (O1 _),.inr ⟨rfl,rfl⟩⟩
def Sp (size:Int)(S:S16)(a:Int)(e:Nat)(c:Int)(h:S16):Prop :=
 ((a<0\/16<=a\/2305843009213693952<=e)/\c=1/\h=S) \/
 ∃f:Nat,a=f/\f<16/\e<2305843009213693952/\((e<=S.L.floor f/\c=9/\h=S)\/(¬e<=S.L.floor f/\S5 size S (.floor f e) c h))
theorem Ue.raise(h:Ue width j S)(I:j+1<=450)(size:Int)(a:Int)(e:Nat) :
  ∃c i,Sp size S a e c i/\Ue width (j+1) i/\((c=0/\∃f:Nat,a=f/\f<16/\S.L.floor f<e/\i.ts=S.ts++[.floor f e]/\i.L=S.L.step (.floor f e)/\i.cnt=S.cnt)\/(c≠0/\i=S)):=by
 have C:=h.mono (O1 j);by_cases G:a<0\/16<=a\/2305843009213693952<=e
 ·exact⟨1,S,.inl ⟨G,rfl,rfl⟩,C,.inr ⟨by decide,rfl⟩⟩
 ·obtain⟨f,rfl⟩:∃f:Nat,a=(f:Int):=⟨a.toNat,by omega⟩;by_cases z:e<=S.L.floor f
  ·exact⟨9,S,.inr ⟨f,rfl,by omega,by omega,.inl ⟨z,rfl,rfl⟩⟩,C,.inr ⟨by decide,rfl⟩⟩
  ·have A:=Gz f e (by omega) (by omega);obtain⟨c,i,J,o,H⟩:=h.write I size (rc:=.floor f e) ⟨by omega,by omega,by omega⟩ (by omega) (PW _ _) (PW _ _) rfl;refine⟨c,i,.inr ⟨f,rfl,by omega,by omega,.inr ⟨z,J⟩⟩,o,?_⟩;rcases H with⟨D,k,E,F⟩|⟨K,k⟩
   ·exact .inl ⟨D,f,rfl,by omega,by omega,k,E,F⟩
   ·exact .inr ⟨by omega,k⟩
def Tz (size:Int)(S:S16)(a:Int)(b:Nat)(l:List Qc)(c:Int)(i:List Nat)(h:S16):Prop :=
 ((a<0\/16<=a\/Yv b l=false)/\c=1/\i=[]/\h=S) \/
 ∃f:Nat,a=f/\f<16/\Yv b l=true/\i=(if c=0 then(pick ((S.L.win f).skip b) l).map (·.n)else[])/\((S.L.putR f b l=AI/\c=0/\h=S)\/∃rc,S.L.putR f b l=AF rc/\S5 size S rc c h)
theorem Ue.put(h:Ue width j S)(R:j+1<=450)(size:Int)(a:Int)(b:Nat)(D:l.length<=8)(A:∀x∈l,x.s.body.length<=40) :
  ∃c J i,Tz size S a b l c J i/\Ue width (j+1) i/\J.length<=8/\((c=0/\∃f rc,a=(f:Nat)/\f<16/\S.L.putR f b l=AF rc/\i.ts=S.ts++[rc]/\i.L=S.L.step rc/\i.cnt=S.cnt)\/i=S):=by
 have I:=h.mono (O1 j);by_cases H:a<0\/16<=a\/Yv b l=false
 ·exact⟨1,[],S,.inl ⟨H,rfl,rfl,rfl⟩,I,BW _,.inr rfl⟩
 ·have k:Yv b l=true:=by
   cases k:Yv b l
   ·exact absurd (.inr (.inr k)) H
   ·rfl
  obtain⟨f,rfl⟩:∃f:Nat,a=(f:Int):=⟨a.toNat,by omega⟩;have T:=(Xi ((S.L.win f).skip b) l).length_le;cases o:S.L.putR f b l with
  | none=>exact⟨0,_,S,.inr ⟨f,rfl,by omega,k,rfl,.inl ⟨o,rfl,rfl⟩⟩,I,by simp;omega,.inr rfl⟩
  | some rc =>
   obtain⟨C,E,Q,G⟩:=JD o k (by omega) D A;obtain⟨c,i,U,F,O⟩:=h.write R size (rc:=rc) (Xs.putR_can (by omega) k (by omega) o) (by omega) E (by omega) G;refine⟨c,_,i,.inr ⟨f,rfl,by omega,k,rfl,.inr ⟨rc,o,U⟩⟩,F,by split<;>simp;omega,?_⟩;rcases O with⟨K,z,M,N⟩|⟨V,z⟩
   ·exact .inl ⟨K,f,rc,rfl,by omega,o,z,M,N⟩
   ·exact .inr z
end Go.Proofs.YtfdmbomlkpkegaaGreat
