/- Lemmas. -/
import Derived.Test.YtfdmbomlkpkegaaGreatS42
set_option maxRecDepth 100000
set_option maxHeartbeats 8000000
set_option linter.all false
set_option autoImplicit true
set_option relaxedAutoImplicit true
open Go renaming undef->LW,yielded->AW
open Go.Act renaming put->AQ
open Go.Lib renaming hid->BX
open Go.Region renaming wanted->AV
open Go.World renaming alloc_drew->WO,size_drew->WN
open Go.World.ownsRow renaming lt->BL
open List renaming length_take->E9
open Nat renaming le_trans->BF
open Option renaming none->AI
namespace Go.Proofs.YtfdmbomlkpkegaaGreat
open Go Go.RowKit Go.Dr Go.Shelf
theorem Ig[bn:Ib](hT:ban.top<=w.heap.size)(wd sg:Nat)(hv:Gu w.heap.size 13 (Cv w.heap.size w) v2 C) :
  Calls Tryz.prog 8 #[.int .u16 wd,.int .u16 sg,v2] w λe H=>e=.returned (.bool true)/\Xy No w H:=by
 have cd:=hv;obtain⟨ao,cap,rfl,cQ,bj,_⟩:=cd;have bg:=Lp (w:=w) hT;have bM:(C.length:Int)<=9223372036854775807:=by unfold maxLen at bj;omega
 have HT:=BX (A4 hT hv trivial bM);clear hT hv cQ bj bM;go_enter Tryz.func8,Tryz.ntmps8;go_upto_region 3 with(go_at_call 28;refine bg.mono ?_;rintro e w1 ⟨rfl,k1⟩);clear bg;have bw:=Dc (base:=w.heap.size) (w:=w1) wd sg k1.size (BF HT.out.1 k1.size);go_upto_region 6 with(go_at_call 29;refine bw.mono ?_;rintro e w2 ⟨P,R,X,q,p,r,xq,S,F,G,rfl,hP,aV,bm,_,_,bJ,k2⟩);clear bw;obtain⟨width,Q⟩:∃n:Nat,n=1+wd%30:=⟨_,rfl⟩;obtain⟨size,ab⟩:∃n:Nat,n=1+sg%300:=⟨_,rfl⟩;rw[<- Q,<- ab]at hP;rw[<- Q]at aV;have hz:(1:Int)<=(size:Int):=by omega
 have bd:w.heap.size<=P:=BF k1.size (bJ P (.inl rfl));have HI:=BX (A3 (Ro.start hP aV bm.2.1 (Fq _) (λb hb=>BF k1.size (bJ b hb)) (k1.then k2)) hz bd);clear hP aV bm bJ k1 k2 Q ab hz bd;go_wp2_with fail;go_loopw [25] (λbR wr=>∃i:Nat,bR=.int .i64 (i:Nat)/\i<=C.length/\Ro w P width size (1+2*min i 25) wr) (λbR _=>C.length-(intOf bR).toNat);case atStart=>exact⟨0,rfl,Nat.zero_le _,HI.out.1⟩
 case round =>
  obtain⟨i,rfl,hi,hW⟩:=hrel;have bM:=HT.out.2.2.2;by_cases aH:i<C.length
  ·have hx:C[i]?=some C[i]:=List.getElem?_eq_getElem aH;generalize C[i]=a at hx;obtain⟨g,o,cU,hA⟩:=Gu.at HT.out.2.1 hx;subst cU;obtain⟨fv,fi,bK,bI,hc⟩:=hA.cells;obtain⟨fo,fc,rfl,cS,cT⟩:=bK.form;obtain⟨io,ic,rfl,cW,cX⟩:=bI.form;have D:Xy No w wr:=hW.keep;have c0:=D.cell (hc 0 (by decide)) id;have c1:=D.cell (hc 1 (by decide)) id;have c2:=D.cell (hc 2 (by decide)) id;have c3:=D.cell (hc 3 (by decide)) id;have c4:=D.cell (hc 4 (by decide)) id;have c5:=D.cell (hc 5 (by decide)) id;have c6:=D.cell (hc 6 (by decide)) id;have c7:=D.cell (hc 7 (by decide)) id;have c8:=D.cell (hc 8 (by decide)) id;have c9:=D.cell (hc 9 (by decide)) id;have bT:=D.cell (hc 10 (by decide)) id;have bU:=D.cell (hc 11 (by decide)) id;have bV:=D.cell (hc 12 (by decide)) id;simp[Ty]at c0 c1 c2 c3 c4 c5 c6 c7 c8 c9 bT bU bV;have cV:(i:Int)<(C.length:Int):=by omega
   have cr:IntKind.i64.wrap ((i:Int)+1)=((i+1:Nat):Int):=by rw[IntKind.wrap_i64];omega
   have bq:=hA.kind;have az:=hA.num;have aR:=hA.kept;obtain⟨cs,am⟩:∃cs:Array Value,cs=Ty a.kd a.f (.slice fo a.f.runs.length fc) (.slice io a.f.items.length ic) a.on a.keep a.torn:=⟨_,rfl⟩;have kA:=(Xy.refl No wr).alloc (.cells cs 85);have k:=Qy wr (.cells cs 85);have bf:=hW.no kA;have hm:Int.tmod (a.kd:Int) 6=((a.kd%6:Nat):Int):=rfl;have HR:=BX (A8 bf bK bI bq az aR aH D);clear hW hA hc hi hx kA bK bI bq az aR cW cX cS cT bf D;by_cases bZ:25<=i
   ·have q1:(25:Int)<=(i:Int):=by omega
    have HX:=BX (HR.out.2.2.2.2.2.2.2.alloc (.cells cs 85));rw[am]at HX;unfold Ty at HX;clear bZ aH hm k am HR;go_wp2_with fail;go_ret;exact⟨rfl,HX.out⟩
   ·have q1:¬(25:Int)<=(i:Int):=by omega
    have ax:min i 25=i:=by omega
    have ay:min (i+1) 25=i+1:=by omega
    rw[ax]at HR;obtain⟨W,hW⟩:∃W,W=wr.alloc (.cells cs 85):=⟨_,rfl⟩;rw[<- hW]at k HR;rw[am]at k hW;have bO:wr.heap.size<W.heap.size:=by rw[hW];simp
    obtain⟨cq,aK⟩:∃b,b=wr.heap.size:=⟨_,rfl⟩;have bF:=HR.out.2.2.2.2.2.2.2.size;rw[<- aK]at k bO bF;have af:Xy No w W:=HR.out.1.keep;have d0:=Qq k 0;have d1:=Qq k 1;have d2:=Qq k 2;have d3:=Qq k 3;have d4:=Qq k 4;have d5:=Qq k 5;have d6:=Qq k 6;have d7:=Qq k 7;have d8:=Qq k 8;have d9:=Qq k 9;have bW:=Qq k 10;have bX:=Qq k 11;have bY:=Qq k 12;simp[Ty]at d0 d1 d2 d3 d4 d5 d6 d7 d8 d9 bW bX bY;have T:=BX (A5 aH ay bF bO af);have co:=BX k;unfold Ty at hW;clear bZ aH am ax ay k bF bO af;go_upto_region 10 with fail;rw[<- hW,<- aK];clear hW aK c0 c1 c2 c3 c4 c5 c6 c7 c8 c9 bT bU bV;by_cases hk:2<a.kd%6
    ·have q2:(2:Int)<(a.kd:Int)%6:=by omega
     have bk:=HR.out.1.other (by have:=T.out.1;omega) HI.out.2.1 HT.out.1 HI.out.2.2 a.f (.slice fo a.f.runs.length fc) (.slice io a.f.items.length ic) a.kd hk a.on a.keep a.torn HR.out.qf;unfold Ty at bk;clear hk hm;go_wp2_with(go_at_call 35;refine bk.mono ?_;rintro e w3 ⟨rfl,be⟩;have H3:=BX be;clear be);go_roundw;case rel=>exact⟨i+1,by go_num,T.out.1,by rw[T.out.2.1];exact H3.out.mono (by omega)⟩
     case measure=>have:=T.out.1;simp[intOf];omega
    ·have q2:¬(2:Int)<(a.kd:Int)%6:=by omega
     obtain⟨R,X,q,p,r,xq,S,o,F,G,h1,h2,h3,h4,h5,h6⟩:=HR.out.1;have p0:=Qq h1.blk 0;simp at p0;have aD:=QB (base:=w.heap.size) a.f (HR.out.2.1.no T.out.re) (HR.out.2.2.1.no T.out.re) T.out.2.2.2.2.size (BF HT.out.1 T.out.2.2.2.2.size);obtain⟨rn,cC⟩:∃rn,rn=(a.f.runs.take 40).length:=⟨_,rfl⟩;obtain⟨ad,av⟩:∃ad,ad=(My a.f.items).length:=⟨_,rfl⟩;have ah:=BX (A2 cC av);unfold Vy.cells at aD;dsimp only[Cq]at aD;have HQ:=BX (A6 h1 h2 h3 h4 h5 h6);clear h1 h2 h3 h4 h5 h6 hk hm cC av;go_upto_region 13 with(go_at_call 41;refine aD.mono ?_;rintro e w4 ⟨cw,ct,rfl,aX,aO,k4⟩;obtain⟨cN,cM,aW,_,_⟩:=(aX _ HR.out.2.1).form;obtain⟨cI,cH,aN,_,_⟩:=aO.form;rw[<- ah.out.1]at aW;rw[<- ah.out.2]at aN;subst aW aN);clear aD d0 d1 d2 d3 d4 d5 d6 d7 d8 d9 bW bX bY;obtain⟨W5,ai⟩:∃W5,W5=w4.alloc (.cells #[.int .u8 a.f.kind,.int .i64 a.f.agent,.int .u64 a.f.epoch,.int .u64 a.f.inc,.int .u64 a.f.base,.int .u64 a.f.cum,.int .u64 a.f.limit,.slice cN rn cM,.slice cI ad cH] 69):=⟨_,rfl⟩;have k5:Xy No w4 W5:=by rw[ai];exact(Xy.refl _ _).alloc _
     have M:W5.heap[w4.heap.size]?=some (.cells #[.int .u8 a.f.kind,.int .i64 a.f.agent,.int .u64 a.f.epoch,.int .u64 a.f.inc,.int .u64 a.f.base,.int .u64 a.f.cum,.int .u64 a.f.limit,.slice cN rn cM,.slice cI ad cH] 69 (0,0)):=by rw[ai];exact Qy _ _
     rw[<- ai];clear ai;obtain⟨bB,ar⟩:∃b,b=w4.heap.size:=⟨_,rfl⟩;have bE:W.heap.size<=w4.heap.size:=k4.size;rw[<- ar]at M bE⊢;have ap:Xy No W W5:=k4.then k5;have af:=T.out.2.2.2.2.then ap;have aB:=HQ.out.1.no ap;have p0:=Qq aB.blk 0;simp at p0;have r0:=aB.rcv.led;have cB:=Rl aB.rcv;have y0:=Qq M 0;have y1:=Qq M 1;have y2:=Qq M 2;have y3:=Qq M 3;have y4:=Qq M 4;have y5:=Qq M 5;have y6:=Qq M 6;have y7:=Qq M 7;have y8:=Qq M 8;simp at y0 y1 y2 y3 y4 y5 y6 y7 y8;have has:=aB.led.asks HQ.out.2.1 (by have:=T.out.1;omega) a.f.agent;have cD:=aB.recv (B:=W5.heap.size) (B0:=W.heap.size) HQ.out.2.1 (by have:=T.out.1;omega) (Cq a.f) (Tf _) (QA _) (by show(a.f.runs.take 40).length<=_;rw[E9];omega) (λr hr=>HR.out.qe r (List.mem_of_mem_take hr));have V:¬Mz R X F G bB:=λe=>by have:=HQ.out.1.feetLt e;omega
     have J:=BX (A7 aB ap af (aX _ HR.out.2.1) (aO.no k5) bE V);have HE:=BX M;have HA:=BX has;have cP:=BX cD;clear aB ap af aX aO bE V M has cD k4 k5 ar;go_upto_region 14 with(go_at_call 34;refine cB.mono ?_;rintro e w3 ⟨rfl,e3⟩;have e3:=e3.symm;subst e3);clear cB;go_cut [12,13,14] (λcl cm cn wx=>∃aA,cm=.pointer (some ⟨aA,0,AI⟩)/\cl=.int .u64 (Mo S.L a.f.agent)/\cn=.int .i64 (S.L.recs.length:Nat)/\Xf wx aA (Bt S.L a.f.agent)/\Xy No W5 wx/\W5.heap.size<=aA);case first =>
      have kd:Xy No W5 W5.drew:=(Xy.refl _ _).drew;refine SW (λH=>Xy No W5 H) [(some (11,[10]),[0,1,2,4,5,6,8],[3,7,9]),(AI,[],[12,13,14])] (by kernel_rfl) (by kernel_rfl) (λ_ _ _ _ _ h=>h) kd (QR ?_);iterate 7(refine Qk (v:=?_) rfl rfl rfl ?_ ?_;rotate_left;focus(
       intro H d;have g0:=d.cell y1 id;have g1:=d.cell p0 id;have g2:=d.cell r0 id;go_simp
       try with_reducible rfl))
      refine Qj ?_;have m:=kd;clear kd;iterate 3(refine⟨?_,?_⟩;rotate_left;(with_reducible show Ru _ _ _ _ _ (_::_) _ _;refine Qx rfl rfl (λK j=>?_);go_simp;first
       | (with_reducible refine(HA.out.qc _ m).mono ?_;rintro e w6 ⟨rfl,e6⟩;subst e6;refine j _ _ m ?_;clear j K)
       | (with_reducible refine(HA.out.2.1 _ m).mono ?_;rintro e w6 ⟨u1,rfl,N,Z⟩;(try have U:=Z.heap U id);have m:=m.then Z;refine j _ _ m ?_;clear j K Z)
       | (with_reducible refine(HA.out.qd _ m).mono ?_;rintro e w6 ⟨v6,rfl,ac,Z⟩;obtain⟨cj,ch,rfl,_,_⟩:=ac.form;(try have U:=Z.heap U id);(try have N:=N.no Z);have m:=m.then Z;refine j _ _ m ?_;clear j K Z ac)
       | (with_reducible refine j _ _ m ?_;clear j K)
       | (have ag:=m;have ak:=m.size;have U:=GU m (.cells #[.int .u64 0,.int .u64 0,.slice AI 0 0] 92);(try simp only[WN]at U);(try simp only[WN]at ak);(try have cF:=N);(try have N:=N.no ((Xy.refl No _).alloc (.cells #[.int .u64 0,.int .u64 0,.slice AI 0 0] 92)));have m:=m.alloc (.cells #[.int .u64 0,.int .u64 0,.slice AI 0 0] 92);(try simp only[WO]at m);(try simp only[WO]at U);refine j _ _ m ?_;clear j K));refine Qh ?_)
      iterate 1(refine Qk (v:=?_) rfl rfl rfl ?_ ?_;rotate_left;focus(intro H d;go_simp;try with_reducible rfl));refine Qj ?_
      all_goals(repeat (with_reducible show Ru _ _ _ _ _ (_::_) _ _;refine Qx rfl rfl (λK j=>?_);go_simp;first
       | (with_reducible refine(HA.out.qc _ m).mono ?_;rintro e w6 ⟨rfl,e6⟩;subst e6;refine j _ _ m ?_;clear j K)
       | (with_reducible refine(HA.out.2.1 _ m).mono ?_;rintro e w6 ⟨u1,rfl,N,Z⟩;(try have U:=Z.heap U id);have m:=m.then Z;refine j _ _ m ?_;clear j K Z)
       | (with_reducible refine(HA.out.qd _ m).mono ?_;rintro e w6 ⟨v6,rfl,ac,Z⟩;obtain⟨cj,ch,rfl,_,_⟩:=ac.form;(try have U:=Z.heap U id);(try have N:=N.no Z);have m:=m.then Z;refine j _ _ m ?_;clear j K Z ac)
       | (with_reducible refine j _ _ m ?_;clear j K)
       | (have ag:=m;have ak:=m.size;have U:=GU m (.cells #[.int .u64 0,.int .u64 0,.slice AI 0 0] 92);(try simp only[WN]at U);(try simp only[WN]at ak);(try have cF:=N);(try have N:=N.no ((Xy.refl No _).alloc (.cells #[.int .u64 0,.int .u64 0,.slice AI 0 0] 92)));have m:=m.alloc (.cells #[.int .u64 0,.int .u64 0,.slice AI 0 0] 92);(try simp only[WO]at m);(try simp only[WO]at U);refine j _ _ m ?_;clear j K)))
      all_goals(refine Qh ?_)
      all_goals(try(iterate 1(refine Qk (v:=?_) rfl rfl rfl ?_ ?_;rotate_left;focus(intro H d;go_simp;try with_reducible rfl));refine Qj ?_))
      all_goals
       refine QH (Qj ?_);obtain⟨o3,c3,rfl,cZ⟩:=N.form;have q0:=Qq U 0;have q1:=Qq U 1;have q2:=Qq U 2;have fB:=Qg U;simp at q0 q1 q2;refine Qx rfl rfl (λK j=>?_);go_simp;refine j _ _ m ?_;clear j K;refine Qx rfl rfl (λK j=>?_);go_simp;first
        | (obtain⟨o4,c4,e4,cb⟩:=cF.form;simp at e4;obtain⟨rfl,rfl⟩:=e4;refine j _ _ (ag.alloc _) ?_;clear j K;refine Qx rfl rfl (λK j=>?_);go_simp;refine j _ _ (ag.alloc _) ?_;clear j K;refine Qh (Pf ?_);go_wp2_with fail;go_meet;exact⟨_,rfl,rfl,rfl,⟨o3,c3,Qy _ _,cb.no ((Xy.refl No _).alloc _)⟩,ag.alloc _,ag.size⟩)
        | (obtain⟨hZ,kZ⟩:=Xf.ofV (x:=Bt S.L a.f.agent) U cZ;have kz:=m.trans kZ (λc hc e=>by omega);refine j _ _ kz ?_;clear j K;refine Qx rfl rfl (λK j=>?_);go_simp;refine j _ _ kz ?_;clear j K;refine Qh (Pf ?_);go_wp2_with fail;go_meet;exact⟨_,rfl,rfl,rfl,hZ,kz,ak⟩)
     case rest =>
      obtain⟨aA,rfl,rfl,rfl,au,A,bh⟩:=hcut
      rename World=>W6
      have y0:=A.cell y0 id;have y1:=A.cell y1 id;have y2:=A.cell y2 id;have y3:=A.cell y3 id;have y4:=A.cell y4 id;have y5:=A.cell y5 id;have y6:=A.cell y6 id;have y7:=A.cell y7 id;have y8:=A.cell y8 id;have bb:=A.heap HE.out id;have an:=J.out.1.no A;have p0:=Qq an.blk 0;simp at p0;have r0:=an.rcv.led;have cK:=J.out.2.1.then A;have ae:=J.out.2.2.1.then A;have aY:=J.out.qd;have aP:=J.out.2.2.2.2.1.no A;have Y:¬Mz R X F G aA:=λe=>by have:=HQ.out.1.feetLt e;have:=J.out.2.1.size;omega
      obtain⟨cg,S',o',hh,ho,bA,bx,bz⟩:=cP.out;have kd:Xy No W6 W6.drew:=(Xy.refl _ _).drew;have aF:=bx W6.drew _ _ (A.then kd) (aY.no (ae.then kd)) (aP.no kd) (ae.then kd).size (BF HT.out.1 (ae.then kd).size);unfold Vy.cells at aF;dsimp only[Cq]at aF;have O:=BX (A11 an au Y cK ae aY aP ho bA bz hh);have bS:=BX (A2 A.size bb);clear an au Y cK ae aY aP bb ho bA bx bz hh A bh;go_upto_region 15 with fail;refine Ql (λH=>Xy (Mz R X F G) W6 H) [0,1,2,3,4] [5] [6] (by kernel_rfl) (by kernel_rfl) (λ_ _ _ _ _ h=>h) kd.no ?_;iterate 5(refine Qk (v:=?_) rfl rfl rfl ?_ ?_;rotate_left;focus(
       intro H d;have g0:=d.cell p0 (λe=>Nr O.out.1.outF e);have g1:=d.cell y0 (λe=>J.out.rg e);have g2:=d.cell y1 (λe=>J.out.rg e);have g3:=d.cell y2 (λe=>J.out.rg e);have g4:=d.cell y3 (λe=>J.out.rg e);have g5:=d.cell y4 (λe=>J.out.rg e);have g6:=d.cell y5 (λe=>J.out.rg e);have g7:=d.cell y6 (λe=>J.out.rg e);have g8:=d.cell y7 (λe=>J.out.rg e);have g9:=d.cell y8 (λe=>J.out.rg e);go_simp
       try with_reducible rfl))
      refine Qj (Qx rfl rfl (λK j=>?_));go_simp;refine aF.mono ?_;rintro z w7⟨rfl,bs⟩;obtain⟨F3,h7,k7,bu⟩:=(O.out.1.no kd).ledStep bs;have E:Xy (Mz R X F G) W6 w7:=kd.no.trans k7 (λb _ e=>.inl e);refine j _ _ E ?_;clear j K aF bs;refine Qh (Qu rfl (Qm ?_));have y0:=E.cell y0 J.out.rg;have y1:=E.cell y1 J.out.rg;have y2:=E.cell y2 J.out.rg;have y3:=E.cell y3 J.out.rg;have y4:=E.cell y4 J.out.rg;have y5:=E.cell y5 J.out.rg;have y6:=E.cell y6 J.out.rg;have y7:=E.cell y7 J.out.rg;have y8:=E.cell y8 J.out.rg;have bP:Xy No w w7:=O.out.2.2.2.2.1.absorb E (λb e=>HQ.out.qe b e);have aL:=O.out.2.1.keep O.out.1.feetR E O.out.qc;have aw:=O.out.2.2.2.2.2.2.1.keep O.out.1.feetFoot E (λb hb e=>by
       obtain⟨xs,_,_,x3⟩:=O.out.qg;have:=(BL x3 b hb).1;have:=HQ.out.1.feetLt e
       omega)
      have bD:∀b,F3 b->F b\/W6.heap.size<=b:=bu;have aT:bB<W6.heap.size:=Qt bS.out.2;have aU:aA<W6.heap.size:=O.out.2.1.lt;have bN:∀b,b<W6.heap.size->¬Mz R X F G b->¬Mz R X F3 G b:=λb hb hn e=>by
       rcases e with(e|e)|e
       ·rcases bD b e with h|h
        ·exact hn (.inl (.inl h))
        ·omega
       ·exact hn (.inl (.inr e))
       ·exact hn (.inr e)
      have V:=bN bB aT J.out.rg;have Y:=bN aA aU O.out.qc;have p1:=Qq h7.blk 1;simp at p1;have aq:Xy No w7 w7.drew:=(Xy.refl _ _).drew;have bL:=bP.then aq;have aE:=Lj (base:=w.heap.size) (B:=W.heap.size) (w:=w7.drew) (Cq a.f) HR.out.qd (O.out.2.2.2.2.2.1.no bL) (by show(a.f.runs.take 40).length<=_;rw[E9];omega) (aw.no aq) (by have:=Tf a.f.items;show(My a.f.items).length<=_;omega) bL.size;unfold Vy.cells Vy.dcells at aE;dsimp only[Cq]at aE;have al:=O.out.2.2.2.2.2.2.2.2.1.closed HQ.out.2.1.okL;have e1:(Cq a.f).agent=a.f.agent:=rfl;have e2:(Cq a.f).epoch=a.f.epoch:=rfl;rw[e1,e2]at al;have br:¬((Mo S'.L a.f.agent:Int)<(Mo S.L a.f.agent:Int)):=by have:=al.1;omega
      have cY:decide ((Mo S'.L a.f.agent:Int)<(Mo S.L a.f.agent:Int))=false:=decide_eq_false br;have cR:=GF cg;have I:=BX (A9 h7 bP aL V Y E bD al.2 aq);have HO:=BX aE;clear h7 bP aL V Y aw aE k7 bu bD bN aT aU E al e1 e2 bL aq kd r0 p0;go_upto_region 16 with fail;refine Vr (λH=>Xy (Mz R X F3 G) w7 H) [([0,1,2,3,4,5],[6,7]),([8,9,10,11,12,14],[13]),([15,16],[])] (by kernel_rfl) (by kernel_rfl) (λ_ _ _ _ _ h=>h) I.out.2.2.2.2.2.2.2.2.no ?_;iterate 6(refine Qk (v:=?_) rfl rfl rfl ?_ ?_;rotate_left;focus(
       intro H d;have g0:=d.cell p1 (λe=>Nr I.out.1.outF e);have g1:=d.cell y0 I.out.qd;have g2:=d.cell y1 I.out.qd;have g3:=d.cell y2 I.out.qd;have g4:=d.cell y3 I.out.qd;have g5:=d.cell y4 I.out.qd;have g6:=d.cell y5 I.out.qd;have g7:=d.cell y6 I.out.qd;have g8:=d.cell y7 I.out.qd;have g9:=d.cell y8 I.out.qd;go_simp
       try with_reducible rfl))
      refine Qj (Qx rfl rfl (λK j=>?_));go_simp;refine HO.out.mono ?_;rintro z w8⟨cO,cJ,rfl,aZ,aQ,k8⟩;have aC:=I.out.2.2.2.2.2.2.2.2.then k8;refine j _ _ aC.no ?_;clear j K HO;have h8:=I.out.1.no aC;have bQ:=I.out.2.1.then aC;have aG:=O.out.qj w8 F3 cO cJ h8 (aZ.mono (show W5.heap.size<=w7.drew.heap.size from BF (BF bS.out.1 I.out.2.2.2.2.2.1.size) I.out.2.2.2.2.2.2.2.2.size)) aQ bQ.size (BF HT.out.1 bQ.size);obtain⟨ck,ci,aW,_,_⟩:=aZ.form;obtain⟨cf,ce,aN,_,_⟩:=Us.form aQ;have cA:cO=.slice ck rn ci:=by rw[aW,ah.out.1]
      have bp:cJ=.slice cf ad ce:=by rw[aN,ah.out.2]
      clear aW aN;subst cA bp;unfold Vy.dcells at aG;dsimp only[Cq]at aG;refine Qx rfl rfl (λK j=>?_);go_simp;refine aG.mono ?_;rintro z w9⟨rfl,bt⟩;obtain⟨G3,h9,k9,bv⟩:=h8.docStep bt;have aI:Xy (Mz R X F3 G) w7 w9:=aC.no.trans k9 (λb _ e=>.inr e);refine j _ _ aI ?_;clear j K aG bt aZ aQ h8;refine Qh ?_;iterate 2(refine Qk (v:=?_) rfl rfl rfl ?_ ?_;rotate_left;focus(
       intro H d;go_simp
       try with_reducible rfl))
      iterate 4(refine Qe (v:=?_) rfl rfl (by first|kernel_rfl|simp[AV,AW,AQ,LW]) ?_ ?_;rotate_left;focus(
       intro H d;have g0:=d.cell y1 I.out.qd;go_simp
       try with_reducible rfl))
      refine Qj ?_;have aJ:=h9.led.asks O.out.qh (by have:=T.out.1;omega) a.f.agent;refine Za rfl (by first|kernel_rfl|simp[AV,AW,AQ,LW]) (λK j=>?_);go_simp;refine(aJ.qc w9 (Xy.refl _ _)).mono ?_;rintro e cx⟨rfl,bC⟩;have bC:=bC.symm;subst bC;refine j _ _ aI ?_;clear j K;refine Qh ?_;iterate 1(refine Qe (v:=?_) rfl rfl (by first|kernel_rfl|simp[AV,AW,AQ,LW]) ?_ ?_;rotate_left;focus(
       intro H d;go_simp
       try with_reducible rfl))
      iterate 1(refine Qk (v:=?_) rfl rfl rfl ?_ ?_;rotate_left;focus(
       intro H d;go_simp
       try with_reducible rfl))
      refine Qj ?_;refine Qh ?_;unfold Vp;have cL:Xy (Mz R X F G) W6 w9:=I.out.2.2.2.2.2.1.trans (aC.no.trans k9 (λb _ e=>.inr e)) (λb _ e=>e);have hd:QC w.heap.size W6 P R X q p r xq width size S' o' F G w9:=⟨F3,G3,h9,cL,I.out.qg,λb hb=>(bv b hb).imp id (λe=>BF (BF I.out.2.2.2.2.2.1.size aC.size) e)⟩;have aS:=hd.loop O.out.qh (O.out.2.2.2.2.2.2.2.2.1.owes HQ.out.2.1.okL HQ.out.1.rcv.len HQ.out.qc) (O.out.2.2.2.2.2.2.2.2.2.2.room.trans HQ.out.qd) HQ.out.qe O.out.qe;have bG:=I.out.2.2.1.keep I.out.1.feetR aI I.out.qe;have y1:=aI.cell y1 I.out.qd;have y2:=aI.cell y2 I.out.qd;obtain⟨bo,bc,aj,bi⟩:=bG;have z0:=Qq aj 0;have z1:=Qq aj 1;have z2:=Qq aj 2;simp at z0 z1 z2;have HL:=BX aS;have H9:=BX (A2 aJ bi);clear aS hd aJ bi aj h9 k9 bv cL aI aC k8 bQ p1 y0 y3 y4 y5 y6 y7 y8 br cY cR;go_upto_region 18 with fail;by_cases bH:a.f.epoch<Mo S.L a.f.agent
      ·obtain⟨aV,d⟩:=I.out.qh bH;subst aV;rw[d]at H9;have aM:(a.f.epoch:Int)<(Mo S.L a.f.agent:Int):=by omega
       have bl:decide ((a.f.epoch:Int)<(Mo S.L a.f.agent:Int))=true:=decide_eq_true aM;have H8:=BX (A6 H9.out.1.1 H9.out.1.2.1 H9.out.1.qc H9.out.1.qd H9.out.1.re H9.out.2);have kd:Xy No w9 w9.drew:=(Xy.refl _ _).drew;clear bH d;refine Vr (λH=>Xy No w9 H) [([0,1,2,3,4,5,6,7,8,9,11],[10]),([12,13,14,15,16,17,19],[18,20]),([21,22,23,24,27],[25,26]),([28,29,30],[])] (by kernel_rfl) (by kernel_rfl) (λ_ _ _ _ _ h=>h) kd ?_;iterate 5(refine Qk (v:=?_) rfl rfl rfl ?_ ?_;rotate_left;focus(
        intro H d;have g0:=d.cell y1 id;have g1:=d.cell y2 id;have g2:=d.cell z0 id;have g3:=d.cell z1 id;have g4:=d.cell z2 id;go_simp
        try with_reducible rfl))
       iterate 6(refine Qe (v:=?_) rfl rfl (by first|kernel_rfl|simp[AV,AW,AQ,LW]) ?_ ?_;rotate_left;focus(
        intro H d;have g0:=d.cell y1 id;have g1:=d.cell y2 id;have g2:=d.cell z0 id;have g3:=d.cell z1 id;have g4:=d.cell z2 id;go_simp
        try with_reducible rfl))
       refine Qj ?_;refine Za rfl (by first|kernel_rfl|simp[AV,AW,AQ,LW]) (λK j=>?_);go_simp;refine(H8.out.qc _ kd).mono ?_;rintro e w9⟨rfl,e9⟩;subst e9;refine j _ _ kd ?_;clear j K;refine Qh ?_;iterate 7(refine Qe (v:=?_) rfl rfl (by first|kernel_rfl|simp[AV,AW,AQ,LW]) ?_ ?_;rotate_left;focus(
        intro H d;have g0:=d.cell y1 id;have g1:=d.cell y2 id;have g2:=d.cell z0 id;have g3:=d.cell z1 id;have g4:=d.cell z2 id;go_simp
        try with_reducible rfl))
       refine Qj ?_;refine Za rfl (by first|kernel_rfl|simp[AV,AW,AQ,LW]) (λK j=>?_);go_simp;refine(H8.out.2.1 _ kd).mono ?_;rintro e w7⟨u7,rfl,cc,k7⟩;have k7:=kd.then k7;refine j _ _ k7 ?_;clear j K;refine Za rfl (by first|kernel_rfl|simp[AV,AW,AQ,LW]) (λK j=>?_);go_simp;have cE:=Lm cc (show Nf _ (.agg #[.int .u64 (Bt S.L a.f.agent).low,.int .u64 (Bt S.L a.f.agent).width,.slice bo (Bt S.L a.f.agent).set.length bc]) (Bt S.L a.f.agent)from⟨_,rfl,H8.out.2.2.2.2.2.no k7⟩) H8.out.1 H8.out.1;rw[decide_eq_true rfl]at cE;refine cE.mono ?_;rintro e w8⟨rfl,k8⟩;have kz:=k7.then k8;refine j _ _ kz ?_;clear j K;refine Qh ?_;iterate 5(refine Qe (v:=?_) rfl rfl (by first|kernel_rfl|simp[AV,AW,AQ,LW]) ?_ ?_;rotate_left;focus(
        intro H d;go_simp
        try with_reducible rfl))
       refine Qj ?_;refine Za rfl (by first|kernel_rfl|simp[AV,AW,AQ,LW]) (λK j=>?_);go_simp;refine(H8.out.qd _ kz).mono ?_;rintro e w9⟨v9,rfl,cG,k9⟩;obtain⟨cv,cu,rfl,_,_⟩:=cG.form;have ky:=kz.then k9;clear cG;refine j _ _ ky ?_;clear j K;refine Za rfl (by first|kernel_rfl|simp[AV,AW,AQ,LW]) (λK j=>?_);go_simp;refine j _ _ ky ?_;clear j K;refine Qh ?_;iterate 2(refine Qe (v:=?_) rfl rfl (by first|kernel_rfl|simp[AV,AW,AQ,LW]) ?_ ?_;rotate_left;focus(
        intro H d;go_simp
        try with_reducible rfl))
       iterate 1(refine Qk (v:=?_) rfl rfl rfl ?_ ?_;rotate_left;focus(
        intro H d;go_simp
        try with_reducible rfl))
       refine Qj ?_;refine Qh ?_;refine Bx ?_;go_simp;go_wp2_with fail;go_roundw;case rel=>exact⟨i+1,by go_num,T.out.1,by rw[T.out.2.1];exact(HL.out.no ky).mono (by omega)⟩
       case measure=>have:=T.out.1;simp[intOf];omega
      ·have aM:¬(a.f.epoch:Int)<(Mo S.L a.f.agent:Int):=by omega
       have bl:decide ((a.f.epoch:Int)<(Mo S.L a.f.agent:Int))=false:=decide_eq_false aM;have cp:decide (a.f.epoch<Mo S.L a.f.agent)=false:=decide_eq_false bH;have kd:Xy No w9 w9.drew:=(Xy.refl _ _).drew;refine Vr (λH=>Xy No w9 H) [([0,1,2,3,4,5,6,7,8,9,11],[10]),([12,13,14,15,16,17,19],[18,20]),([21,22,23,24,27],[25,26]),([28,29,30],[])] (by kernel_rfl) (by kernel_rfl) (λ_ _ _ _ _ h=>h) kd ?_;iterate 5(refine Qk (v:=?_) rfl rfl rfl ?_ ?_;rotate_left;focus(
        intro H d;have g0:=d.cell y1 id;have g1:=d.cell y2 id;have g2:=d.cell z0 id;have g3:=d.cell z1 id;have g4:=d.cell z2 id;go_simp
        try with_reducible rfl))
       iterate 6(refine Sh rfl rfl (by first|kernel_rfl|simp[AV,AW,AQ,LW]) ?_)
       refine Qj ?_;refine Tu rfl (by first|kernel_rfl|simp[AV,AW,AQ,LW]) kd ?_;refine Qh ?_;iterate 7(refine Sh rfl rfl (by first|kernel_rfl|simp[AV,AW,AQ,LW]) ?_)
       refine Qj ?_;refine Tu rfl (by first|kernel_rfl|simp[AV,AW,AQ,LW]) kd ?_;refine Tu rfl (by first|kernel_rfl|simp[AV,AW,AQ,LW]) kd ?_;refine Qh ?_;iterate 5(refine Sh rfl rfl (by first|kernel_rfl|simp[AV,AW,AQ,LW]) ?_)
       refine Qj ?_;refine Tu rfl (by first|kernel_rfl|simp[AV,AW,AQ,LW]) kd ?_;refine Tu rfl (by first|kernel_rfl|simp[AV,AW,AQ,LW]) kd ?_;refine Qh ?_;iterate 2(refine Sh rfl rfl (by first|kernel_rfl|simp[AV,AW,AQ,LW]) ?_)
       iterate 1(refine Qk (v:=?_) rfl rfl rfl ?_ ?_;rotate_left;focus(
        intro H d;go_simp
        try with_reducible rfl))
       refine Qj ?_;refine Qh ?_;refine Bx ?_;go_simp;go_wp2_with fail;go_roundw;case rel=>exact⟨i+1,by go_num,T.out.1,by rw[T.out.2.1];exact(HL.out.no kd).mono (by omega)⟩
       case measure=>have:=T.out.1;simp[intOf];omega
  ·have cV:¬(i:Int)<(C.length:Int):=by omega
   have HX:=BX hW.keep;clear hW hi aH;go_wp2_with fail;go_ret;exact⟨rfl,HX.out⟩
end Go.Proofs.YtfdmbomlkpkegaaGreat
