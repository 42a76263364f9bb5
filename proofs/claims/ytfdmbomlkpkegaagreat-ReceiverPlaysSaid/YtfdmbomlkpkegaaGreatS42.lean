/- Lemmas. -/
import Derived.Test.YtfdmbomlkpkegaaGreatS41
set_option maxRecDepth 100000
set_option maxHeartbeats 8000000
set_option linter.all false
set_option autoImplicit true
set_option relaxedAutoImplicit true
open Go renaming Calls->DJ,MemPlace->PF,Value->AM,World->AC
open Go.DataW renaming trod->PG,trod_int->PJ,trod_struct->PI
open Go.Lib renaming hid->BX
open List renaming getElem?_eq_getElem->BY,replicate->BT
open Nat renaming le_succ->O1,le_trans->BF
open Option renaming none->AI,some->AF
namespace Go.Proofs.YtfdmbomlkpkegaaGreat
section
open Go Go.RowKit Go.Dr Go.Shelf
def S16.full (S:S16)(on:Bool):S16:={S with d:={S.d with full:=on},x:={S.x with full:=on}}
section
variable [bn:Ib]{base:Nat}{w0 w w':AC}{P R X q p r xq width j:Nat}{size:Int}{S S' Sd Sd':S16}{o o' od od':List Nat}{F G:Nat->Prop}
theorem Ue.full(h:Ue width j S)(on:Bool):Ue width j (S.full on):=⟨h.lg7.setFull on,h.tls,h.okL,h.few,h.safe,h.sle,h.lit⟩
theorem Ui.full(h:Ui base w q p width size S F)(on:Bool):DJ Tryz.prog 19 #[.pointer (AF ⟨p,0,AI⟩),.bool on] w λz w'=>z=.returned (.tuple #[])/\YS base w q p width size (S.full on) F w':=by
 obtain⟨g,m,lv,n,s,wv,D,C,f,rfl⟩:=h;refine(Tw f.dk on).mono ?_;rintro e T⟨rfl,I,J,E,A,O,Q⟩;have k:=f.led.keep f.dk.foot_ok (λb i=>f.footLR b (.inl i)) O (λb i e=>f.apart b i (.inl e));have B:=f.lg.keep f.dk.foot_ok O (λb i e=>f.lg.apart f.dk i e);have M:m≠I:=λe=>by
  rcases Q I (.inr (.inl rfl))with h|h
  ·exact f.apart m (.inr (.inl rfl)) (by rw[e];exact .inl h)
  ·have:=f.lt m (.inl (.inr (.inl rfl)));omega
 have N:m≠J:=λe=>by
  rcases Q J (.inr (.inr (.inl rfl)))with h|h
  ·exact f.apart m (.inr (.inl rfl)) (by rw[e];exact .inl h)
  ·have:=f.lt m (.inl (.inr (.inl rfl)));omega
 have K:Zc base T q g m lv p I J E D C width size S.ss S.ts {S.d with full:=on} S.L:=⟨k,B,A,f.ok,f.tl,M,N⟩;refine⟨rfl,_,⟨g,m,lv,I,J,E,D,C,K,rfl⟩,O.mono (λb _ e=>.inr (.inl e)),λb i=>?_⟩;rcases i with i|i|i
 ·exact .inl (.inl i)
 ·exact(Q b i).imp (λe=>.inr (.inl e)) id
 ·exact .inl (.inr (.inr i))
theorem Hv.full(h:Hv base w r xq width size S G)(on:Bool):w.cell? ⟨r,0,AI⟩=AF (.pointer (AF ⟨xq,0,AI⟩))/\w.cell? ⟨xq,1,AI⟩=AF (.bool S.x.full)/\w.frozen? ⟨xq,1,AI⟩=false/\¬r=xq/\G xq /\
  Hv base (w.setCell ⟨xq,1,AI⟩ (.bool on)) r xq width size (S.full on) G/\Xy (·=xq) w (w.setCell ⟨xq,1,AI⟩ (.bool on)):=by
 obtain⟨i,d,rfl⟩:=h;have n:w.cell? ⟨r,0,AI⟩=AF (.pointer (AF ⟨xq,0,AI⟩)):=(Qq d.blk 0).trans rfl;have k:=Qq d.rdisk.blk 1;simp at k;obtain⟨g,m⟩:=d.rdisk.full16 on;have f:¬r=xq:=λe=>d.ne e.symm;exact⟨n,k,Qg d.rdisk.blk 1,f,.inr (.inl rfl),⟨i,⟨m.heap d.blk f,g,d.pb⟩,rfl⟩,m⟩
theorem GB(h:Q17 base w P R X q p r xq width size S o S o F G)(f:Vy)(fv fi:AM)(kd:Nat)(hk:kd%6=4)(on:Bool)(kp tn:Int) :
  DJ Tryz.prog 35 #[.pointer (AF ⟨P,0,AI⟩),.agg (Ty kd f fv fi on kp tn)] w λz w'=>z=.returned (.bool true)/\QC base w P R X q p r xq width size (S.full on) o F G w':=by
 obtain⟨W,M⟩:∃W,W=w.alloc (.cells (Ty kd f fv fi on kp tn) 85):=⟨_,rfl⟩;have kW:Xy No w W:=by rw[M];exact(Xy.refl _ _).alloc _
 have hA:W.heap[w.heap.size]?=AF (.cells (Ty kd f fv fi on kp tn) 85 (0,0)):=by rw[M];exact Qy _ _
 have c0:=Qq hA 0;have n:=Qq hA 10;simp[Ty]at c0 n;have E:=h.no kW;have p0:=Qq E.blk 0;have p1:=Qq E.blk 1;simp at p0 p1;have r0:=E.rcv.led;obtain⟨g,U,Q⟩:=E.logOf;have Y:=Rl E.rcv;have T:=E.led.full on;have aF:(kd:Int)%6=4:=by omega
 have A:∀b,Mz R X F G b->¬b=w.heap.size:=λb k e=>by
  rcases k with(k|k)|(k|k)
  ·have:=(h.led.foot b k).2.1;omega
  ·have:=Qt h.rcv.blk;omega
  ·have:=(h.dcl.foot b k).2.1;omega
  ·have:=Qt h.rdv.blk;omega
 have m:=BX (A7 U Q Y T kW E A);clear h E hk hA kW U Q Y T A;unfold Ty at M⊢;go_enter Tryz.func35,Tryz.ntmps35;go_upto_region 1 with fail;rw[<- M];clear M;go_upto_region 8 with(first
  | (go_at_call 19;refine m.out.2.2.2.1.mono ?_;rintro e w3 ⟨rfl,F3,O,k3,V⟩)
  | (go_at_call 34;refine m.out.2.2.1.mono ?_;rintro e w1 ⟨rfl,d⟩;have d:=d.symm;subst d)
  | (go_at_call 16;refine(m.out.1 _ (Xy.refl _ _)).mono ?_;rintro e w1 ⟨rfl,d⟩;have d:=d.symm;subst d)
  | (go_at_call 17;refine(m.out.2.1 _ (Xy.refl _ _)).mono ?_;rintro e w1 ⟨rfl,d⟩;have d:=d.symm;subst d))
 obtain⟨F4,B,I,D⟩:=m.out.2.2.2.2.2.1.ledStep ⟨F3,O,m.out.2.2.2.2.2.1.rcv.keep k3 m.out.2.2.2.2.2.1.outF.1.2.1,k3.mono (λb _ e=>.inl e),V⟩;have A:=m.out.rg;have p1:=I.cell p1 (λe=>Nr m.out.2.2.2.2.2.1.outF (.inl e));have n:=I.cell n (λe=>A _ (.inl e) rfl);have x0:=B.rdv.led;obtain⟨aA,d,f1,aE,i,C,Z⟩:=B.dcl.full on;have N:¬X=xq:=λe=>by have:=B.outF.2.1.2.2;rw[e]at this;exact this i
 have aC:¬P=xq:=λe=>by have:=B.outF.2.1.1;rw[e]at this;exact this i
 have aB:¬w.heap.size=xq:=λe=>A _ (.inr (.inl i)) e.symm;have J:=(Xy.refl No (w3.setCell ⟨xq,1,AI⟩ (.bool on))).drew;have HX:=BX (A6 B I D (C.no J) (Z.then J) i);clear B I D C Z J O k3 V p0 r0 c0;refine Vr (λw'=>Xy (·=xq) w3 w') [([0,1,2,3,4,5,6,7,8,9,10,11],[]),([12,13],[14])] (by kernel_rfl) (by kernel_rfl) (λ_ _ _ _ _ h=>h) ((Xy.refl No w3).drew).no ?_;iterate 12(refine Qk (v:=?_) rfl rfl rfl ?_ ?_;rotate_left;focus(
  intro w' L;have g0:=L.cell p1 aC;have g1:=L.cell x0 N;have g2:=L.cell aA aE;have g3:=L.cell n aB;go_simp
  try with_reducible rfl))
 refine Qj (Qh ?_);iterate 2(refine Qk (v:=?_) rfl rfl rfl ?_ ?_;rotate_left;focus(
  intro w' L;go_simp
  try with_reducible rfl))
 refine Qj (Qx rfl rfl (λK hK=>?_));go_simp;refine hK _ _ HX.out.qe ?_;clear hK K d f1 p1 aA n x0;refine Qh ?_;unfold Vp;show wpList _ _ _ [] _ _;go_simp;go_wp2_with fail;go_ret;obtain⟨B,I,D,C,Z,i⟩:=HX.out;have hn:Dx base w3 X r xq width size (S.full on) o G (w3.setCell ⟨xq,1,AI⟩ (.bool on)).drew:=⟨G,C,B.rdv.keep Z N,Z.mono (λb _ e=>.inl (by rw[e];exact i)),λb k=>.inl k⟩;obtain⟨G5,h5,k5,aD⟩:=B.docStep hn;refine⟨rfl,F4,G5,h5,(m.out.2.2.2.2.1.no.trans (I.mono (λb _ e=>(Or.inl e:Mz R X F G b))) (λ_ _ e=>e)).trans k5 (λb _ e=>.inr e),λb k=>(D b k).imp id (λe=>BF m.out.2.2.2.2.1.size e),λb k=>(aD b k).imp id (λe=>BF m.out.2.2.2.2.1.size (BF I.size e))⟩
end
def U1 (width:Nat)(S S2:S16):Prop:=∃f,S.cnt<=f/\f<=S.ts.length/\S2.ts=S.ts.take f++[.inc ((told width (S.ts.take f)).inc+1)]/\S2.L=((told width (S.ts.take f)).step (.inc ((told width (S.ts.take f)).inc+1))).sync/\S2.d.room=S.d.room
section
variable [bn:Ib]{base:Nat}{w0 w w':AC}{P R X q p r xq width j:Nat}{size:Int}{S S' Sd Sd':S16}{o o' od od':List Nat}{F G:Nat->Prop}
theorem Ue.crash(ok:Ue width j S)(hj:j<=52)(hz:1<=size)(i:S.d.room=60000)(keep torn:Int) :
  ∃(k:Nat) (f:List Jh) (g:List Ji) (A:Qr) (B:Qn) (L2:Xs),Sr base width size j {S.d.crash keep torn with full:=false} {S.x.crash keep torn with full:=false} 0 k f g A B L2/\U1 width S ⟨f,g,A.sync,B.sync,L2.sync,k⟩:=by
 obtain⟨aA,z,D,V,m⟩:=ok.lg7.crash keep torn;have m:=m.setFull false;have Z:(Zk S.ts).length=S.ts.length:=by simp[Zk]
 have K:(Zk S.ts).take z=Zk (S.ts.take z):=by unfold Zk;rw[List.map_take]
 rw[K]at m;obtain⟨c,f,g,A,B,L2,U,C,O,Q,T⟩:=JM (bn:=bn) (base:=base) m (ok.tls.take z) (λr Y=>ok.few r (List.mem_of_mem_take Y)) (ok.lit.take z) (by omega) ok.okL.wide hz;have E:=m.rel.sum;have I:=Ud ({S.x.crash keep torn with full:=false}:Qn).l;have J:=m.good.sum;rcases U with rfl|rfl
 ·obtain⟨L,N⟩:=O rfl;exact⟨_,f,g,A,B,L2,C,z,D,by omega,L,by rw[N],(T rfl).2.1⟩
 ·exfalso;rcases Q rfl with h|h
  ·cases h
  ·have e:({S.d.crash keep torn with full:=false}:Qr).room=S.d.room:=rfl;have n:msum ({S.d.crash keep torn with full:=false}:Qr).now<=1100*j:=by rw[<- E];exact BF I J
   rw[e,i]at h;generalize msum ({S.d.crash keep torn with full:=false}:Qr).now=M at h n;omega
def ND [bn:Ib](base:Nat)(w:AC)(P width:Nat)(size:Int)(S2:S16)(w':AC):Prop :=
 ∃R X q p r xq F G,Q17 base w' P R X q p r xq width size S2 (BT 16 0) S2 (BT 16 0) F G/\Xy (·=P) w w'/\∀b,Mz R X F G b->w.heap.size<=b
theorem Ui.crashD(h:Ui base w q p width size S F)(ok:Ue width j S)(J:j<=450)(A:base<=w.heap.size)(kp f:Int):DJ Tryz.prog 18 #[.pointer (AF ⟨p,0,AI⟩),.int .i64 kp,.int .i64 f] w (To base w (S.d.crash kp f)):=by obtain⟨i,k,D,_,E,I,b7⟩:=ok.lg7.crashBounds (by omega);obtain⟨g,m,lv,n,s,wv,C,B,z,_⟩:=h;exact GW z.dk A i k kp f
theorem Hv.crashD(h:Hv base w r xq width size S G)(ok:Ue width j S)(D:j<=450)(n:base<=w.heap.size)(kp g:Int)(d:kp<=9223372036854775807):DJ Tryz.prog 88 #[.pointer (AF ⟨xq,0,AI⟩),.int .i64 kp,.int .i64 g] w (YN base w (S.x.crash kp g)):=by
 obtain⟨A,B,C,_,i,k,b7⟩:=ok.lg7.crashBounds (by omega);have f:S.x.l.length<=1000:=by have:=ok.lg7.good.len;omega
 obtain⟨z,m,_⟩:=h;exact JI m.rdisk n f i k b7 kp g d
theorem Hv.disk(h:Hv base w r xq width size S G):w.cell? ⟨r,0,AI⟩=AF (.pointer (AF ⟨xq,0,AI⟩)):=by obtain⟨f,d,_⟩:=h;exact(Qq d.blk 0).trans rfl
theorem V1(h:Q17 base w P R X q p r xq width size S o S o F G)(ok:Ue width j S)(hj:j<=52)(hz:1<=size)(aC:S.d.room=60000)(A:base<=w.heap.size)(hT:ban.top<=w.heap.size)(f:Vy)(fv fi:AM)(kd:Nat)(hk:kd%6=5)(on:Bool)(kp tn:Int)(bG:kp<=9223372036854775807) :
  ∃S2,U1 width S S2/\DJ Tryz.prog 35 #[.pointer (AF ⟨P,0,AI⟩),.agg (Ty kd f fv fi on kp tn)] w λz w'=>z=.returned (.bool true)/\ND base w P width size S2 w'/\Ue width (j+1) S2:=by
 obtain⟨k,bI,bJ,d2,x2,L2,ag,ah⟩:=ok.crash (base:=base) hj hz aC kp tn;obtain⟨S2,D⟩:∃S2:S16,S2=⟨bI,bJ,d2.sync,x2.sync,L2.sync,k⟩:=⟨_,rfl⟩;obtain⟨W,hW⟩:∃W,W=w.alloc (.cells (Ty kd f fv fi on kp tn) 85):=⟨_,rfl⟩;have kW:Xy No w W:=by rw[hW];exact(Xy.refl _ _).alloc _
 have hA:W.heap[w.heap.size]?=AF (.cells (Ty kd f fv fi on kp tn) 85 (0,0)):=by rw[hW];exact Qy _ _
 refine⟨S2,by rw[D];exact ah,?_⟩;have Q:=h.no kW;have c0:=Qq hA 0;have aF:=Qq hA 11;have aG:=Qq hA 12;simp[Ty]at c0 aF aG;have p0:=Qq Q.blk 0;have V:=Qq Q.blk 1;have p2:=Qq Q.blk 2;have p3:=Qq Q.blk 3;simp at p0 V p2 p3;have x0:=Q.rdv.led;have y0:=Q.dcl.disk;have r0:=Q.rcv.led;obtain⟨g,aj,ai⟩:=Q.logOf;have ar:=Rl Q.rcv;have bF:(kd:Int)%6=5:=by omega
 have aJ:=BF A kW.size;have ac:=BF hT kW.size;have HL:=BX (A3 aj ai ar);have HC:=BX (A2 (λ(Y:AC) (k:Xy No W Y)=>(Q.led.no k).crashD ok (by omega) (BF aJ k.size) kp tn) (λ(Y:AC) (k:Xy No W Y)=>(Q.dcl.no k).crashD ok (by omega) (BF aJ k.size) kp tn bG));have C:=BX (A6 Q kW aJ ac ag D);clear h ok hj A hT hk hA kW aj ai ar ah hz aC Q aJ ac ag D;unfold Ty at hW⊢;go_enter Tryz.func35,Tryz.ntmps35;go_upto_region 1 with fail;rw[<- hW];clear hW;go_upto_region 11 with(first
  | (go_at_call 34;refine HL.out.2.2.mono ?_;rintro e w1 ⟨rfl,J⟩;have J:=J.symm;subst J)
  | (go_at_call 16;refine(HL.out.1 _ (Xy.refl _ _)).mono ?_;rintro e w1 ⟨rfl,J⟩;have J:=J.symm;subst J)
  | (go_at_call 17;refine(HL.out.2.1 _ (Xy.refl _ _)).mono ?_;rintro e w1 ⟨rfl,J⟩;have J:=J.symm;subst J))
 have aE:Xy No W W.drew:=(Xy.refl _ _).drew;refine Ql (λw'=>Xy No W w') [0,1,2,3,4,6,7,8,9,10,11,12,13,14,15,16,17,18,19] [5,20] [21,22] (by kernel_rfl) (by kernel_rfl) (λ_ _ _ _ _ h=>h) aE ?_;iterate 1(refine Qk (v:=?_) rfl rfl rfl ?_ ?_;rotate_left;focus(
  intro w' M;go_simp
  try with_reducible rfl))
 iterate 4(refine Qk (v:=?_) rfl rfl rfl ?_ ?_;rotate_left;focus(
  intro w' M;have g0:=M.cell aF id;have g1:=M.cell aG id;go_simp
  try with_reducible rfl))
 iterate 10(refine Qk (v:=?_) rfl rfl rfl ?_ ?_;rotate_left;focus(
  intro w' M;have g0:=M.cell V id;have g1:=M.cell x0 id;have g2:=M.cell y0 id;go_simp
  try with_reducible rfl))
 iterate 4(refine Qk (v:=?_) rfl rfl rfl ?_ ?_;rotate_left;focus(
  intro w' M;have g0:=M.cell aF id;have g1:=M.cell aG id;go_simp
  try with_reducible rfl))
 refine Qj (Qx rfl rfl (λK L=>?_));go_simp;refine(HC.out.1 _ aE).mono ?_;rintro e w1⟨aL,n1,s1,bB,rfl,aH,k1,ak⟩;have aD:=aE.then k1;refine L _ _ aD ?_;clear L K;refine Qx rfl rfl (λK L=>?_);go_simp;refine(HC.out.2 _ aD).mono ?_;rintro e w2⟨y,yv,rfl,aI,k2,aw,aQ⟩;have I:=aD.then k2;refine L _ _ I ?_;clear L K;refine Qh (Qu rfl (Qu rfl (Qm ?_)));show wpList _ _ _ [_,_] _ _;have aA:=Tw (aH.no k2) false;have aO:∀b,foot aL n1 s1 bB b->W.heap.size<=b:=λb A=>BF aE.size (ak b A);have aN:∀b,foot aL n1 s1 bB b->b<w1.heap.size:=λb A=>(aH.foot_ok b A).2.1;have ay:∀b,(b=y\/yv.ownBlock=AF b)->w1.heap.size<=b/\b<w2.heap.size:=λb A=>by
  rcases A with rfl|A
  ·exact⟨aw,Qt aI.blk⟩
  ·obtain⟨_,bL,hz⟩:=aI.calls.kind b A;exact⟨aQ b A,Qt hz⟩
 have p0:=I.cell p0 id;have V:=I.cell V id;have p2:=I.cell p2 id;have p3:=I.cell p3 id;have aM:=aH.no k2;have B:=BX (A7 aI I aO aN ay aD.size aM);clear aM aI I aO aN ay aH k1 k2 ak aw aQ aD aE r0 x0 y0 HC HL c0 aF aG bF;have n:∀b,W.heap.size<=b->¬b=P:=λb h e=>by have:=Qt C.out.1.blk;omega
 go_upto_region 13 with(go_at_call 19;refine aA.mono ?_;rintro e w3 ⟨rfl,n3,s3,bK,aW,k3,al⟩);have m:∀b,foot aL n3 s3 bK b->W.heap.size<=b/\(b<w1.heap.size\/w2.heap.size<=b):=λb A=>by
  have h1:=B.out.2.1.size;rcases al b A with h|h
  ·exact⟨B.out.qc b h,.inl (B.out.qd b h)⟩
  ·exact⟨by omega,.inr h⟩
 have Z:=B.out.1.byD B.out.rg k3;have aU:base<=w3.heap.size:=BF C.out.qc (BF B.out.2.1.size k3.size);have aS:ban.top<=w3.heap.size:=BF C.out.qd (BF B.out.2.1.size k3.size);have p0:=k3.cell p0 (λe=>n _ (B.out.qc _ e) rfl);have V:=k3.cell V (λe=>n _ (B.out.qc _ e) rfl);have p2:=k3.cell p2 (λe=>n _ (B.out.qc _ e) rfl);have p3:=k3.cell p3 (λe=>n _ (B.out.qc _ e) rfl);have J:=Qq Z.blk 1;have f1:=Qg Z.blk 1;simp at J;obtain⟨ad,U⟩:=Z.full16 false;have aV:W.heap.size<=y:=BF B.out.qf (B.out.qe y (.inl rfl)).1;have O:¬P=y:=λe=>n y aV e.symm;have p0:=U.cell p0 O;have V:=U.cell V O;have p2:=U.cell p2 O;have p3:=U.cell p3 O;have aR:=aW.byX Z U;have aB:=C.out.2.2.2.2.1.led0 aR (BF aU U.size) (BF aS U.size);have az:Xy No W (w3.setCell ⟨y,1,AI⟩ (.bool false)):=(B.out.2.1.absorb k3 B.out.qc).absorb U (λb e=>by
  have e:b=y:=e
  omega)
 have af:=BF aU U.size;have ab:=BF aS U.size;have aP:=BF B.out.2.1.size (BF k3.size U.size);go_upto_region 14 with fail;generalize (w3.setCell ⟨y,1,AI⟩ (.bool false))=w4 at *;have HE:=BX (A8 ad az af ab m aV aP aR);clear ad aR az af ab Z aU aS J f1 aW al k3 U aA m aP;go_upto_region 15 with(go_at_call 20;refine aB.mono ?_;rintro e w5 ⟨q2,F2,rfl,ao,aX,k5,am⟩);have aT:=HE.out.1.byD HE.out.rh k5;have m:=HE.out.qe;have p0:=k5.cell p0 (λe=>n _ (m _ e).1 rfl);have V:=k5.cell V (λe=>n _ (m _ e).1 rfl);have p2:=k5.cell p2 (λe=>n _ (m _ e).1 rfl);have p3:=k5.cell p3 (λe=>n _ (m _ e).1 rfl);have kd:Xy No w5 w5.drew:=(Xy.refl _ _).drew;have au:=C.out.2.2.2.2.1.doc0 (aT.no kd) (BF HE.out.qc (BF k5.size kd.size)) (BF HE.out.qd (BF k5.size kd.size));have HF:=BX (A5 aX k5 aT ao am);clear aX k5 aT aB ao am;refine Vr (λw'=>Xy (·=y) w5 w') [([0,1,2,3,4,5,6,7,8,9,10],[11]),([12,13,14],[15,16])] (by kernel_rfl) (by kernel_rfl) (λ_ _ _ _ _ h=>h) kd.no ?_;iterate 11(refine Qk (v:=?_) rfl rfl rfl ?_ ?_;rotate_left;focus(
  intro w' M;have g0:=M.cell p2 O;have g1:=M.cell p3 O;go_simp
  try with_reducible rfl))
 refine Qj ?_;refine Qx rfl rfl (λK L=>?_);go_simp;refine au.mono ?_;rintro e w6⟨r2,G2,rfl,ap,aZ,bA,an⟩;have k6:Xy (·=y) w5 w6:=kd.no.trans bA (λ_ _ e=>e);have av:w5.heap.size<=w5.drew.heap.size:=kd.size;refine L _ _ k6 ?_;clear L K;refine Qh ?_;iterate 3(refine Qk (v:=?_) rfl rfl rfl ?_ ?_;rotate_left;focus(
  intro w' M;go_simp
  try with_reducible rfl))
 refine Qj (Qx rfl rfl (λK L=>?_));go_simp;refine L _ _ k6 ?_;clear L K;refine Qx rfl rfl (λK L=>?_);go_simp;refine L _ _ k6 ?_;clear L K;refine Qh ?_;unfold Vp;show wpList _ _ _ [] _ _;go_simp;have ax:∀b,b=y->W.heap.size<=b:=λb e=>by have:=HE.out.qf;omega
 have aK:Xy No W w6:=(HE.out.2.1.absorb HF.out.2.1 (λb e=>(m b e).1)).absorb k6 ax;have E:=aK.heap C.out.1.blk id;have aY:=(HF.out.1.cellsAt HF.out.2.2.1.blk (by simp) (by simp) (by simp) HF.out.2.2.1.qb k6).1;have bH:=Ou (base:=base) (w:=w6) q2 (BF C.out.qc aK.size);have HG:=BX (A7 aY aZ aK E ap an av);have bO:=Qt E;clear aY aZ aK E ap an av k6 bA au kd p0 V p2 p3 ax;go_wp2_with(go_at_call 30;refine bH.mono ?_;rintro e w7 ⟨rfl,aq,k7⟩;have N:=λT=>((Xy.refl No w7).alloc T).heap (k7.heap HG.out.qd id) id;have p0:∀T,(w7.alloc T).cell? ⟨P,0,AI⟩=AF (.pointer (AF ⟨R,0,AI⟩)):=λT=>(Qq (N T) 0).trans rfl;have f0:=λT=>Qg (N T) 0;have f1:=λT=>Qg (N T) 1;have V:∀T,(w7.alloc T).cell? ⟨P,1,AI⟩=AF (.pointer (AF ⟨X,0,AI⟩)):=λT=>(Qq (N T) 1).trans rfl;have HI:=BX (A3 aq k7 N);clear aq k7 N);go_ret;have bR:=C.out.2.1.size;have bP:=HE.out.qg;have bQ:=HG.out.2.2.1.size;have bN:=HI.out.2.1.size;have bM:=HF.out.2.1.size;have aV:=HE.out.qf;have bE:=Qz (i:=0) (u:=.pointer (AF ⟨w6.heap.size,0,AI⟩)) (HI.out.2.2 (.cells (Se r2 (BT 16 0)) 190));have ae:=Qz (i:=1) (u:=.pointer (AF ⟨w7.heap.size,0,AI⟩)) bE;have kz:=(Xy.refl No w7).alloc (.cells (Se r2 (BT 16 0)) 190);have hX:=Qy w7 (.cells (Se r2 (BT 16 0)) 190);have kS:Xy (·=P) (w7.alloc (.cells (Se r2 (BT 16 0)) 190)) (((w7.alloc (.cells (Se r2 (BT 16 0)) 190)).setCell ⟨P,0,AI⟩ (.pointer (AF ⟨w6.heap.size,0,AI⟩))).setCell ⟨P,1,AI⟩ (.pointer (AF ⟨w7.heap.size,0,AI⟩))):=(Qd _ _).trans (Qd _ _) (λ_ _ e=>e);have bC:=(((HG.out.1.no HI.out.2.1).no kz).cellsAt (HI.out.2.2 _) (by simp) (by simp) (by simp) C.out.1.pb kS).1;have bD:=(((HG.out.2.1.no HI.out.2.1).no kz).cellsAt (HI.out.2.2 _) (by simp) (by simp) C.out.1.pb kS).1;have D:=C.out.rf;refine⟨rfl,⟨w6.heap.size,w7.heap.size,q2,aL,r2,y,F2,G2,⟨ae,(HI.out.1.no kz).keep kS (by omega),⟨kS.heap hX (by omega),rfl,by have:=C.out.qc;omega⟩,by rw[D];exact bC,by rw[D];exact bD,C.out.1.pb⟩,(((C.out.2.1.then HG.out.qc).then HI.out.2.1).then kz).no.trans kS (λ_ _ e=>e),λb A=>?_⟩,by rw[D];exact C.out.2.2.2.2.1.ok0 HG.out.1⟩;rcases A with(A|rfl)|(A|rfl)
 ·rcases HF.out.re b A with h|h
  ·have:=(m b h).1;omega
  ·omega
 ·omega
 ·rcases HG.out.qf b A with h|h|h
  ·omega
  ·have h8:=(B.out.qe b (.inr h)).1;have h9:=B.out.qf;omega
  ·have:=HG.out.rg;omega
 ·omega
end
end
section
open Go Go.RowKit Go.ChangeShapes Go.WideShapes Go.ChangeAt Go.Deep
theorem Oe{cs:List AM}(h:cs.length=13):∃i k m n z A B C D E d f g,cs=[i,k,m,n,z,A,B,C,D,E,d,f,g]:=by
 match cs,h with
 | [i,k,m,n,z,A,B,C,D,E,d,f,g],_=>exact⟨i,k,m,n,z,A,B,C,D,E,d,f,g,rfl⟩
structure Dj where
 kd:Nat
 f:Vy
 on:Bool
 keep:Int
 torn:Int
structure Cv [bn:Ib](base:Nat)(w:AC)(g o:Nat)(a:Dj):Prop where
 kind:a.f.kind<256
 kept:a.keep<=9223372036854775807
 num:∀r∈a.f.runs,r.1<18446744073709551616/\r.2<18446744073709551616
 cells:∃fv fi,Sa w fv a.f.runs/\Rw base w fi a.f.items/\∀i,i<13->w.cell? ⟨g,o+i,AI⟩=(Ty a.kd a.f fv fi a.on a.keep a.torn)[i]?
def M0 (w:AC)(g o:Nat)(r:Xc):Prop:=r.1<18446744073709551616/\r.2<18446744073709551616/\w.cell? ⟨g,o,AI⟩=AF (.int .u64 r.1)/\w.cell? ⟨g,o+1,AI⟩=AF (.int .u64 r.2)
section
variable {H:Type}{enc:TypeId × AM->H}{W:AC}
theorem J3{d:Nat}{cs:List AM}{x:DataW H×List PF}{g o:Nat}(h:PG enc Tryz.prog W 0 (λ_=>true) true d 96 cs=AF x)(E:∀i,i<2->W.cell? ⟨g,o+i,AI⟩=cs[i]?):∃r:Xc,M0 W g o r:=by obtain⟨xs,n,_,_,T,f,I⟩:=PI Tryz.underlying96 h;have B:cs.length=2:=T.trans (by kernel_rfl);obtain⟨U,V,rfl⟩:=ZS B;have J:∀i,i<2->∃y,xs[i]?=AF y:=λi hi=>⟨_,BY (by rw[f];exact hi)⟩;have k:=I 0 _ rfl;have m:=I 1 _ rfl;dsimp at k m;rw[show Tryz.prog.cellsOf 27=1 from by kernel_rfl]at k m;obtain⟨Z,N⟩:=J 0 (by omega);obtain⟨y1,O⟩:=J 1 (by omega);rw[N]at k;rw[O]at m;obtain⟨Y,C,_,w0⟩:=PJ Tryz.underlying27 k;obtain⟨n1,D,_,M⟩:=PJ Tryz.underlying27 m;simp at C D;subst C D;have z:=Jt w0;have A:=Jt M;have Q:IntKind.u64.max=18446744073709551615:=rfl;obtain⟨K,rfl⟩:=Jw rfl w0;obtain⟨L,rfl⟩:=Jw rfl M;exact⟨(K,L),by show K<_;have:=z.2;omega,by show L<_;have:=A.2;omega,E 0 (by omega),E 1 (by omega)⟩
theorem Z6[bn:Ib](K:ban.top=0){B:Nat}{cs:List AM}{x:DataW H×List PF}(h:PG enc Tryz.prog W 0 (λ_=>true) true B 69 cs=AF x) :
  ∃(f:Vy) (fv fi:AM),cs=(f.cells fv fi).toList/\f.kind<256/\Sa W fv f.runs/\(∀r∈f.runs,r.1<18446744073709551616/\r.2<18446744073709551616)/\Rw W.heap.size W fi f.items:=by
 obtain⟨xs,n,_,_,hl,N,d⟩:=PI Tryz.underlying69 h;have aD:cs.length=9:=hl.trans (by kernel_rfl);obtain⟨c0,c1,c2,c3,c4,c5,c6,c7,c8,rfl⟩:=KA aD;have k:∀i,i<9->∃y,xs[i]?=AF y:=λi hi=>⟨_,BY (by rw[N];exact hi)⟩;have O:=d 0 _ rfl;have Q:=d 1 _ rfl;have T:=d 2 _ rfl;have U:=d 3 _ rfl;have V:=d 4 _ rfl;have Y:=d 5 _ rfl;have Z:=d 6 _ rfl;have C:=d 7 _ rfl;have D:=d 8 _ rfl;dsimp at O Q T U V Y Z C D;rw[show Tryz.prog.cellsOf 5=1 from by kernel_rfl]at O;rw[show Tryz.prog.cellsOf 3=1 from by kernel_rfl]at Q;rw[show Tryz.prog.cellsOf 27=1 from by kernel_rfl]at T U V Y Z;rw[show Tryz.prog.cellsOf 67=1 from by kernel_rfl]at C;rw[show Tryz.prog.cellsOf 28=1 from by kernel_rfl]at D;obtain⟨y0,e0⟩:=k 0 (by omega);obtain⟨y1,e1⟩:=k 1 (by omega);obtain⟨y2,e2⟩:=k 2 (by omega);obtain⟨y3,e3⟩:=k 3 (by omega);obtain⟨y4,e4⟩:=k 4 (by omega);obtain⟨y5,e5⟩:=k 5 (by omega);obtain⟨y6,e6⟩:=k 6 (by omega);obtain⟨y7,e7⟩:=k 7 (by omega);obtain⟨y8,e8⟩:=k 8 (by omega);rw[e0]at O;rw[e1]at Q;rw[e2]at T;rw[e3]at U;rw[e4]at V;rw[e5]at Y;rw[e6]at Z;rw[e7]at C;rw[e8]at D;obtain⟨n0,h0,_,w0⟩:=PJ Tryz.underlying5 O;obtain⟨n1,E,_,w1⟩:=PJ Tryz.underlying3 Q;obtain⟨n2,I,_,w2⟩:=PJ Tryz.underlying27 T;obtain⟨n3,m,_,w3⟩:=PJ Tryz.underlying27 U;obtain⟨n4,J,_,w4⟩:=PJ Tryz.underlying27 V;obtain⟨n5,A,_,w5⟩:=PJ Tryz.underlying27 Y;obtain⟨n6,h6,_,w6⟩:=PJ Tryz.underlying27 Z;obtain⟨ro,rn,rc,h7⟩:=Tm Tryz.underlying67 C;obtain⟨io,aE,ic,h8⟩:=Tm Tryz.underlying28 D;have aA:c7=.slice ro rn rc:=by simpa using h7
 have aB:c8=.slice io aE ic:=by simpa using h8
 simp at h0 E I m J A h6;subst h0 E I m J A h6 aA aB;obtain⟨rl,z⟩:=Th (α:=Xc) (0,0) (M0 W) Tryz.underlying67 2 (by decide) (by kernel_rfl) (λh hc=>J3 h hc) C;obtain⟨il,M⟩:=Th (α:=Qc) ⟨0,⟨0,[]⟩⟩ (VC W.heap.size W) Tryz.underlying28 3 (by decide) (by kernel_rfl) (λh hc=>XY K h hc) D;have aC:=Jt w0;have aF:IntKind.u8.max=255:=rfl;obtain⟨m0,rfl⟩:=Jw rfl w0;obtain⟨m2,rfl⟩:=Jw rfl w2;obtain⟨m3,rfl⟩:=Jw rfl w3;obtain⟨m4,rfl⟩:=Jw rfl w4;obtain⟨m5,rfl⟩:=Jw rfl w5;obtain⟨m6,rfl⟩:=Jw rfl w6;refine⟨⟨m0,n1,m2,m3,m4,m5,m6,rl,il⟩,_,_,rfl,by show m0<256;have:=aC.2;omega,?_,?_,M⟩
 ·obtain⟨ao,cap,e,E,I,m⟩:=z;refine⟨ao,cap,e,E,I,m.imp id (λ⟨g,o,_,J,A⟩=>⟨g,o,J,λi r hi=>(A i r hi).2.2⟩)⟩
 ·intro r hr;obtain⟨i,hi,rfl⟩:=List.getElem_of_mem hr;obtain⟨ao,cap,e,E,I,m⟩:=z;rcases m with m|⟨g,o,_,J,A⟩
  ·have L:i<rl.length:=hi;rw[m]at L;simp at L
  ·have:=A i _ (BY hi);exact⟨this.1,this.2.1⟩
theorem Ij[bn:Ib](k:ban.top=0){d:Nat}{cs:List AM}{x:DataW H×List PF}{g o:Nat}(h:PG enc Tryz.prog W 0 (λ_=>true) true d 85 cs=AF x)(hc:∀i,i<13->W.cell? ⟨g,o+i,AI⟩=cs[i]?):∃a:Dj,Cv W.heap.size W g o a:=by obtain⟨xs,n,_,_,hl,A,m⟩:=PI Tryz.underlying85 h;have z:cs.length=13:=hl.trans (by kernel_rfl);obtain⟨c0,c1,c2,c3,c4,c5,c6,c7,c8,c9,V,Y,Z,rfl⟩:=Oe z;have B:∀i,i<5->∃y,xs[i]?=AF y:=λi hi=>⟨_,BY (by rw[A];exact hi)⟩;have C:=m 0 _ rfl;have D:=m 1 _ rfl;have E:=m 2 _ rfl;have I:=m 3 _ rfl;have J:=m 4 _ rfl;dsimp at C D E I J;rw[show Tryz.prog.cellsOf 5=1 from by kernel_rfl]at C;rw[show Tryz.prog.cellsOf 69=9 from by kernel_rfl]at D;rw[show Tryz.prog.cellsOf 4=1 from by kernel_rfl]at E;rw[show Tryz.prog.cellsOf 3=1 from by kernel_rfl]at I J;obtain⟨y0,e0⟩:=B 0 (by omega);obtain⟨y1,e1⟩:=B 1 (by omega);obtain⟨y2,e2⟩:=B 2 (by omega);obtain⟨y3,e3⟩:=B 3 (by omega);obtain⟨y4,e4⟩:=B 4 (by omega);rw[e0]at C;rw[e1]at D;rw[e2]at E;rw[e3]at I;rw[e4]at J;obtain⟨n0,L,_,w0⟩:=PJ Tryz.underlying5 C;obtain⟨f,fv,fi,M,hk,hv,hn,hi⟩:=Z6 k D;obtain⟨U,N,_⟩:=DataW.trod_bool Tryz.underlying4 E;obtain⟨T,O,_,w3⟩:=PJ Tryz.underlying3 I;obtain⟨n4,Q,_,w4⟩:=PJ Tryz.underlying3 J;simp[Vy.cells]at L M N O Q;obtain⟨q1,q2,q3,q4,q5,q6,q7,q8,q9⟩:=M;subst L q1 q2 q3 q4 q5 q6 q7 q8 q9 N O Q;have K:=Jt w3;have aA:IntKind.i64.max=9223372036854775807:=rfl;obtain⟨m0,rfl⟩:=Jw rfl w0;refine⟨⟨m0,f,U,T,n4⟩,hk,by show T<=_;have:=K.2;omega,hn,_,_,hv,hi,λi hi=>?_⟩;rw[hc i hi];exact(List.getElem?_toArray ..).symm
theorem Dv[bn:Ib](g:ban.top=0){f:Nat}{ao:Option Addr}{n cap:Nat}{x:DataW H×List PF}(h:PG enc Tryz.prog W 0 (λ_=>true) true f 83 [.slice ao n cap]=AF x) :
  ∃d:List Dj,Gu W.heap.size 13 (Cv W.heap.size W) (.slice ao n cap) d :=
 Th (α:=Dj) ⟨0,⟨0,0,0,0,0,0,0,[],[]⟩,false,0,0⟩ (Cv W.heap.size W) Tryz.underlying83 13 (by decide) (by kernel_rfl) (λh i=>Ij g h i) h
end
end
section
open Go Go.RowKit Go.Dr Go.Shelf
theorem YL(d:Qr)(sn:Int)(B:Qs):(d.append sn B).1.room=d.room:=by
 unfold Qr.append
 repeat' split
 all_goals rfl
section
variable {width j:Nat}{size:Int}{S S':S16}{c:Int}{o o':List Nat}
theorem S5.room(h:S5 size S rc c S'):S'.d.room=S.d.room:=by have f:=YL S.d (Uj (Ku size S.ss)).n (appB (Ku size S.ss) rc.bytes);rw[h.1.1]at f;exact f
theorem Sp.room(h:Sp size S a e c S'):S'.d.room=S.d.room:=by
 rcases h with⟨_,_,rfl⟩|⟨_,_,_,_,⟨_,_,rfl⟩|⟨_,h⟩⟩
 ·rfl
 ·rfl
 ·exact h.room
theorem Tz.room(h:Tz size S a b l c f S'):S'.d.room=S.d.room:=by
 rcases h with⟨_,_,_,rfl⟩|⟨_,_,_,_,_,⟨_,_,rfl⟩|⟨_,_,h⟩⟩
 ·rfl
 ·rfl
 ·exact h.room
theorem Ny.room(h:Ny width j size S o f ok S' o'):S'.d.room=S.d.room:=by
 rcases h with⟨_,_,_,rfl,_⟩|⟨_,_,_,⟨_,h,_⟩|⟨_,h,_⟩⟩
 ·rfl
 ·rcases h with⟨_,_,rfl⟩|⟨_,⟨_,_,h⟩,_⟩|⟨_,S1,_,_,⟨_,rfl⟩|⟨_,g⟩,_,h⟩
  ·rfl
  ·exact h.room
  ·exact h.room
  ·exact h.room.trans g.room
 ·rcases h with⟨_,_,rfl⟩|⟨_,_,_,_,h,_⟩
  ·rfl
  ·exact h.room
theorem Nu.room(h:Nu S o l S'):S'.d.room=S.d.room:=by rcases h with⟨_,_,rfl⟩|⟨_,_,rfl⟩<;>rfl
end
def Ro [bn:Ib](w:AC)(P width:Nat)(size:Int)(j:Nat)(wr:AC):Prop :=
 ∃R X q p r xq S o F G,Q17 w.heap.size wr P R X q p r xq width size S o S o F G/\Ue width j S/\Nj S.L o/\S.d.room=60000/\(∀b,Mz R X F G b->w.heap.size<=b)/\Xy No w wr
section
variable [bn:Ib]{w wr w':AC}{P R X q p r xq width j:Nat}{size:Int}{S S':S16}{o o':List Nat}{F G:Nat->Prop}
theorem Ro.no(h:Ro w P width size j wr)(k:Xy No wr w'):Ro w P width size j w':=by obtain⟨R,X,q,p,r,xq,S,o,F,G,d,f,g,i,m,n⟩:=h;exact⟨R,X,q,p,r,xq,S,o,F,G,d.no k,f,g,i,m,n.then k⟩
theorem Ro.keep(h:Ro w P width size j wr):Xy No w wr:=by obtain⟨R,X,q,p,r,xq,S,o,F,G,f,g,i,k,m,d⟩:=h;exact d
theorem Ro.mono(h:Ro w P width size j wr)(z:j<=k):Ro w P width size k wr:=by obtain⟨R,X,q,p,r,xq,S,o,F,G,d,f,g,i,m,n⟩:=h;exact⟨R,X,q,p,r,xq,S,o,F,G,d,f.mono z,g,i,m,n⟩
theorem QC.loop(C:QC w.heap.size wr P R X q p r xq width size S' o' F G w')(ok:Ue width j S')(g:Nj S'.L o')(D:S'.d.room=60000)(hF:∀b,Mz R X F G b->w.heap.size<=b)(k:Xy No w wr):Ro w P width size j w':=by
 obtain⟨i,m,n,z,A,B⟩:=C;refine⟨R,X,q,p,r,xq,S',o',i,m,n,ok,g,D,λb f=>?_,k.absorb z hF⟩;have E:=k.size;rcases f with(f|f)|f|f
 ·rcases A b f with h|h
  ·exact hF b (.inl (.inl h))
  ·omega
 ·exact hF b (.inl (.inr f))
 ·rcases B b f with h|h
  ·exact hF b (.inr (.inl h))
  ·omega
 ·exact hF b (.inr (.inr f))
omit bn in
theorem Fq(L:Xs):Nj L (BT 16 0):=λa h=>by
 rw[List.getD_eq_getElem?_getD,List.getElem?_replicate]at h
 split at h<;>simp at h
theorem Ro.other(h:Ro w P width size j wr)(hj:j<=51)(hz:1<=size)(hT:ban.top<=w.heap.size)(hP:w.heap.size<=P)(f:Vy)(k fi:AM)(kd:Nat)(g:2<kd%6)(on:Bool)(kp B:Int)(K:kp<=9223372036854775807) :
  DJ Tryz.prog 35 #[.pointer (AF ⟨P,0,AI⟩),.agg (Ty kd f k fi on kp B)] wr λz w'=>z=.returned (.bool true)/\Ro w P width size (j+1) w':=by
 obtain⟨R,X,q,p,r,xq,S,o,F,G,C,D,N,m,O,n⟩:=h;have A:=n.size;have i:=BF hT A;rcases(show kd%6=3\/kd%6=4\/kd%6=5 by omega)with g|g|g
 ·obtain⟨l,S',L,M,E⟩:=GO C D (by omega) N A i f k fi kd g on kp B;refine E.mono ?_;rintro z Q⟨e,J⟩;exact⟨e,J.loop (M.mono (O1 _)) (Fq _) (L.room.trans m) O n⟩
 ·refine(GB C f k fi kd g on kp B).mono ?_;rintro z Q⟨e,J⟩;exact⟨e,J.loop ((D.full on).mono (O1 _)) N m O n⟩
 ·obtain⟨S2,I,E⟩:=V1 C D (by omega) hz m A i f k fi kd g on kp B K;refine E.mono ?_;rintro z Q⟨e,⟨R,X,q,p,r,xq,F,G,T,U,V⟩,Y⟩;obtain⟨_,_,_,_,_,Z⟩:=I;exact⟨e,R,X,q,p,r,xq,S2,_,F,G,T,Y,Fq _,Z.trans m,λb d=>BF A (V b d),n.absorb U (λb d=>by rw[show b=P from d];exact hP)⟩
end
section
variable [bn:Ib]{base:Nat}{w w':AC}{q p width j:Nat}{size:Int}{S:S16}{F:Nat->Prop}
theorem Ui.winOf(h:Ui base w q p width size S F)(i:a<16):(S.L.win a).Ok/\∀X,Xy No w X->DJ Tryz.prog 37 #[.pointer (AF ⟨q,0,AI⟩),.int .i64 a] X λe w'=>∃u,e=.returned u/\Nf w' u (S.L.win a)/\Xy No X w':=by obtain⟨g,m,lv,n,s,wv,C,B,f,_⟩:=h;obtain⟨x,A,d,z,_⟩:=f.ok.at i;rw[z];exact⟨d.now,λX k=>KU (f.led.no k) i A⟩
theorem Ui.incOf(h:Ui base w q p width size S F):DJ Tryz.prog 15 #[.pointer (AF ⟨q,0,AI⟩)] w λe w'=>e=.returned (.int .u64 S.L.inc)/\w'=w:=by obtain⟨g,m,lv,n,s,wv,i,f,d,_⟩:=h;exact Sf d.led
def Bt (L:Xs)(a:Int):Xn:=if 0<=a/\a<16 then L.win a.toNat else⟨0,0,[]⟩
def Mo (L:Xs)(a:Int):Nat:=if 0<=a/\a<16 then L.floor a.toNat else 0
theorem Ui.asks(h:Ui base w q p width size S F)(ok:Ue width j S)(C:j<=450)(a:Int):(Bt S.L a).set.length<=268435456 /\
  (∀X,Xy No w X->DJ Tryz.prog 37 #[.pointer (AF ⟨q,0,AI⟩),.int .i64 a] X λe w'=>∃u,e=.returned u/\Nf w' u (Bt S.L a)/\Xy No X w') /\
  (∀X,Xy No w X->DJ Tryz.prog 39 #[.pointer (AF ⟨q,0,AI⟩),.int .i64 a] X λe w'=>e=.returned (.int .u64 (Mo S.L a))/\w'=X) /\
  (∀X,Xy No w X->DJ Tryz.prog 13 #[.pointer (AF ⟨q,0,AI⟩)] X λe w'=>∃v,e=.returned v/\Xg w' X.heap.size v S.L.recs/\Xy No X w')/\S.L.recs.length<=7200:=by
 have J:=ok.many C;have d:∀X,Xy No w X->DJ Tryz.prog 13 #[.pointer (AF ⟨q,0,AI⟩)] X λe w'=>∃v,e=.returned v/\Xg w' X.heap.size v S.L.recs/\Xy No X w':=λX k=>by
  obtain⟨g,m,lv,n,s,wv,I,E,z,_⟩:=h;exact G9 (z.led.no k) (by omega) (λr D=>by have:=(z.ok.had r D).2.2.1.2.2;omega)
 by_cases A:a<0\/16<=a
 ·have f:Bt S.L a=⟨0,0,[]⟩:=by unfold Bt;rw[if_neg (by omega)]
  have i:Mo S.L a=0:=by unfold Mo;rw[if_neg (by omega)]
  rw[f,i];exact⟨Nat.zero_le _,λX k=>Z7 (λ_=>Cn q a A),λX k=>Y8 (Cn q a A),d,by omega⟩
 ·obtain⟨n,rfl⟩:∃n:Nat,a=n:=⟨a.toNat,by omega⟩;have f:Bt S.L (n:Int)=S.L.win n:=by unfold Bt;rw[if_pos ⟨by omega,by omega⟩];rfl
  have i:Mo S.L (n:Int)=S.L.floor n:=by unfold Mo;rw[if_pos ⟨by omega,by omega⟩];rfl
  rw[f,i];have B:=h.winOf (a:=n) (by omega);exact⟨B.1.few,B.2,λX k=>(h.no k).floorOf (by omega),d,by omega⟩
end
theorem Ns.closed(h:Ns S o f ok S2 z)(n:S.L.Ok width):Mo S.L f.agent<=Mo S2.L f.agent/\(f.epoch<Mo S.L f.agent->ok=false/\S2=S):=by
 rcases h.floors n with⟨i,rfl,_⟩|⟨i,a,m,k,_,g,d⟩
 ·exact⟨Nat.le_refl _,λ_=>⟨i,rfl⟩⟩
 ·have e:∀L:Xs,Mo L f.agent=L.floor a:=λL=>by unfold Mo;rw[m,if_pos ⟨by omega,by omega⟩];rfl
  rw[e,e,d a,if_pos rfl];exact⟨g,λh=>by omega⟩
theorem GU(_:Xy No a w)(o:Obj):(w.alloc o).heap[w.heap.size]?=AF o:=Qy w o
theorem GF(b:Bool):(b != b)=false:=by cases b<;>rfl
theorem Bx(h:wpList P d Q [] a w):Vp P d Q S [] a w:=h
theorem VT{L:Xs}(h:k≠a)(d:(∃e,r=.floor a e)\/∃b l,r=.put a b l):(L.step r).win k=L.win k/\(L.step r).floor k=L.floor k:=by rcases d with⟨e,rfl⟩|⟨b,l,rfl⟩<;>unfold Xs.win Xs.floor Xs.step<;>rw[List.getElem?_modify]<;>cases L.ag[k]?<;>simp[Ne.symm h]
theorem Ns.apart(h:Ns S o f ok S2 A){k:Nat}(E:f.agent≠k):S2.L.win k=S.L.win k/\S2.L.floor k=S.L.floor k/\A[k]?=o[k]?:=by
 rcases h with⟨_,rfl,rfl⟩|⟨_,a,D,_,_,_,⟨L1,B,g⟩,n,_,i⟩
 ·exact⟨rfl,rfl,rfl⟩
 have d:k≠a:=λe=>E (by rw[D,e]);have m:L1.win k=S.L.win k/\L1.floor k=S.L.floor k:=by
  rcases B with⟨rfl,_⟩|⟨rfl,_⟩
  ·exact⟨rfl,rfl⟩
  ·exact VT d (.inl ⟨_,rfl⟩)
 have z:S2.L.win k=L1.win k/\S2.L.floor k=L1.floor k:=by
  rcases g with g|⟨rc,g,C⟩
  ·rw[g];exact⟨rfl,rfl⟩
  ·obtain⟨I,rfl⟩:=Wf g;rw[C];exact VT d (.inr ⟨_,_,rfl⟩)
 refine⟨z.1.trans m.1,z.2.trans m.2,?_⟩;rcases i with rfl|⟨rfl,_⟩
 ·exact List.getElem?_set_ne (λe=>d e.symm)
 ·rfl
theorem Ns.incs(h:Ns S o f ok S2 m):S2.L.inc=S.L.inc:=by
 rcases h with⟨_,rfl,rfl⟩|⟨_,a,n,_,_,_,⟨L1,i,d⟩,_⟩
 ·rfl
 have g:L1.inc=S.L.inc:=by rcases i with⟨rfl,_⟩|⟨rfl,_⟩<;>rfl
 rcases d with d|⟨rc,d,k⟩
 ·rw[d];exact g
 ·obtain⟨z,rfl⟩:=Wf d;rw[k];exact g
section
variable [bn:Ib]{w wr:AC}{P R X q p r xq width j:Nat}{size:Int}{S:S16}{o:List Nat}{F G:Nat->Prop}
theorem Ro.start(i:P17 w.heap.size h P R X q p r xq width size S o F G)(ok:Ue width 1 S)(n:S.d.room=60000)(m:Nj S.L o)(g:∀b,KQ P R X F G b->w.heap.size<=b)(k:Xy No w h):Ro w P width size 1 h :=
 ⟨R,X,q,p,r,xq,S,o,F,G,i.two,ok,m,n,λb f=>by
  rcases f with(f|f)|(f|f)
  ·exact g b (.inr (.inr (.inr (.inl f))))
  ·exact g b (.inr (.inl f))
  ·exact g b (.inr (.inr (.inr (.inr f))))
  ·exact g b (.inr (.inr (.inl f))),k⟩
theorem Q17.feetLt{Sd:S16}(h:Q17 w.heap.size wr P R X q p r xq width size S o Sd od F G)(d:Mz R X F G b):b<wr.heap.size:=by
 rcases d with(d|d)|(d|d)
 ·exact(h.led.foot b d).2.1
 ·rw[d];exact Qt h.rcv.blk
 ·exact(h.dcl.foot b d).2.1
 ·rw[d];exact Qt h.rdv.blk
theorem Q17.feetFoot{Sd:S16}(h:Q17 w.heap.size wr P R X q p r xq width size S o Sd od F G):Uz w.heap.size wr (Mz R X F G) :=
 Lo (Lo h.led.foot (Td h.rcv.blk h.rcv.pb (by simp))) (Lo h.dcl.foot (Td h.rdv.blk h.rdv.pb (by simp)))
theorem Q17.feetR{Sd:S16}(h:Q17 w.heap.size wr P R X q p r xq width size S o Sd od F G):Zn wr (Mz R X F G) :=
 Ds (Ds h.led.footR (Zn.block h.rcv.blk (by simp))) (Ds h.dcl.footR (Zn.block h.rdv.blk (by simp)))
end
end
end Go.Proofs.YtfdmbomlkpkegaaGreat
