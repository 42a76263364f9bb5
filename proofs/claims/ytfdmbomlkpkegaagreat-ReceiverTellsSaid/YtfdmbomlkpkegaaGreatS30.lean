/- Lemmas. -/
import Derived.Test.YtfdmbomlkpkegaaGreatS29
set_option maxRecDepth 100000
set_option maxHeartbeats 8000000
set_option linter.all false
set_option autoImplicit true
set_option relaxedAutoImplicit true
open Array renaming all_eq_true->PS,getElem?_setIfInBounds->I3
open Go renaming Calls->DJ,TypeId->DW,Value->AM,World->AC,bodyPost_ret->FC,wpList_load_row->PC,wpList_store_row->PE
open Go.IntKind renaming wrap_i64->PO,wrap_u64->F0
open Go.Lib renaming hid->BX
open Go.Result renaming andThen->BS
open Go.Value.slice renaming injEq->DB
open Go.World renaming size_alloc->FE
open List renaming append_assoc->B7,append_nil->B5,drop_drop->O0,drop_left->PQ,flatMap_cons->EL,getElem?_eq_some_iff->BK,getElem?_map->CK,getElem?_modify->HU,getElem?_take->BI,length_append->BO,length_modify->PT,mem_of_getElem?->FB
open Nat renaming add_mul->OT,le_refl->BE,le_trans->BF,mul_le_mul_left->PR
open Option renaming none->AI,some->AF
open UInt8 renaming ofNat->D7
namespace Go.Proofs.YtfdmbomlkpkegaaGreat
open Go Go.RowKit Go.Dr Go.Shelf
structure DIn [bn:Ib](base:Nat)(w:AC)(b:Nat)(pv:AM)(p:List UInt8)(at_:Nat)(rest:List UInt8):Prop where
 blk:w.heap[b]?=AF (.cells #[pv,.int .i64 at_,.int .i64 0] 287 (0,0))
 bytes:Qv base w pv p
 le:at_<=p.length
 left:p.drop at_=rest
 bb:base<=b
 small:p.length<=1099511627776
section
variable [bn:Ib]{base:Nat}{w w':AC}{b:Nat}{pv:AM}{p rest:List UInt8}{at_:Nat}
theorem DIn.no(h:DIn base w b pv p at_ rest)(k:Xy No w w'):DIn base w' b pv p at_ rest:=⟨k.heap h.blk id,h.bytes.no k,h.le,h.left,h.bb,h.small⟩
theorem DIn.foot(h:DIn base w b pv p at_ rest):Uz base w (·=b):=λc d=>by
 have d:c=b:=d
 subst d
 exact⟨h.bb,Qt h.blk,λcs fr e=>by have:=h.blk;rw[this]at e;simp at e⟩
theorem DIn.lens(h:DIn base w b pv p at_ rest):at_+rest.length=p.length:=by have:=congrArg List.length h.left;rw[List.length_drop]at this;have:=h.le;omega
theorem DIn.step(h:DIn base w b pv p at_ rest)(d:rest=q++rest'):DIn base (w.setCell ⟨b,1,AI⟩ (.int .i64 (at_+q.length:Nat))) b pv p (at_+q.length) rest':=by have k:Xy (·=b) w (w.setCell ⟨b,1,AI⟩ (.int .i64 (at_+q.length:Nat))):=Qd _ _;have g:=h.lens;refine⟨by simpa using Qz (i:=1) (u:=.int .i64 (at_+q.length:Nat)) h.blk,h.bytes.keep h.foot k,by rw[d,BO]at g;omega,?_,h.bb,h.small⟩;rw[<- O0,h.left,d,PQ]
end
theorem Qv.byteAt[bn:Ib]{l:List UInt8}(h:Qv base w (.slice ao n cap) l)(hi:l[i]?=AF x):∃d,ao=AF d/\w.cell? (d.add i)=AF (.int .u8 x.toNat):=by obtain⟨_,_,j,_,_,_,m⟩:=h;simp only[DB]at j;obtain⟨rfl,_,rfl⟩:=j;obtain⟨d,e,_,g⟩:=m _ _ hi;exact⟨d,e,g⟩
theorem Mp[bn:Ib]{base:Nat}{w:AC}{b:Nat}{pv:AM}{p rest:List UInt8}{at_:Nat}{c:UInt8}(h:DIn base w b pv p at_ (c::rest)) :
  DJ Tryz.prog 176 #[.pointer (AF ⟨b,0,AI⟩)] w λe w'=>e=.returned (.int .u8 c.toNat)/\DIn base w' b pv p (at_+1) rest/\Xy (·=b) w w':=by
 obtain⟨ao,cap,rfl⟩:=h.bytes.form;have K:=h.lens;have F:=h.small;have g:p[at_]?=AF c:=by
  have:(p.drop at_)[0]?=AF c:=by rw[h.left];rfl
  rw[List.getElem?_drop]at this;simpa using this
 obtain⟨R,rfl,d⟩:=h.bytes.byteAt g;have E:=Qq h.blk 0;have A:=Qq h.blk 1;have I:=Qq h.blk 2;have J:=Qg h.blk;simp at E A I;have N:(p.length:Int)<=1099511627776:=by omega
 have O:(at_:Int)<(p.length:Int):=by simp at K;omega
 have P:((at_:Int)==(p.length:Int))=false:=by simp;omega
 have V:IntKind.i64.wrap ((at_:Int)+1)=((at_+1:Nat):Int):=by rw[PO];omega
 have W:IntKind.i64.wrap ((at_:Int)+1-1)=(at_:Int):=by rw[PO];omega
 have Y:IntKind.i64.wrap (at_:Int)=(at_:Int):=by rw[PO];omega
 have D:=BX (A2 h g);clear h K g F d;go_enter Tryz.func176,Tryz.ntmps176;go_upto_region 3 with fail;have kd:Xy No w w.drew:=(Xy.refl _ _).drew;refine Ql (λw'=>Xy No w w') [0,1,2,3,4,5,6,7,8] [] [9] (by kernel_rfl) (by kernel_rfl) (λ_ _ _ _ _ h=>h) kd ?_;iterate 9(refine Qk (v:=?_) rfl rfl rfl ?_ ?_;rotate_left;focus(
  intro w' n;have B:=n.cell E id;have C:=n.cell A id;go_simp
  try with_reducible rfl))
 refine Qj (Qh (Qu rfl (Qm ?_)));generalize w.drew=X at kd⊢;have j:=(D.out.1.no kd).step (q:=[c]) (rest':=rest) rfl;simp only[List.length_singleton]at j;rw[show((at_+1:Nat):Int)=(at_:Int)+1 by omega]at j;have A:=kd.cell A id;have J:=Qg (D.out.1.no kd).blk;have G:Xy (·=b) X (X.setCell ⟨b,1,AI⟩ (.int .i64 ((at_:Int)+1))):=Qd _ _;obtain⟨z,m⟩:∃z,z=X.setCell ⟨b,1,AI⟩ (.int .i64 ((at_:Int)+1)):=⟨_,rfl⟩;rw[<- m]at j G;have B:=Qq j.blk 0;have C:=Qq j.blk 1;simp at B C;obtain⟨M,e,d⟩:=j.bytes.byteAt D.out.2;cases e;have H:=BX (A2 j (kd.no.trans G (λ_ _ e=>e)));clear j G E I;go_upto_region 7 with fail;rw[<- m];clear m A J;have i:Xy No z z.drew:=(Xy.refl _ _).drew;refine Ql (λw'=>Xy No z w') [0,1,2,3,4,5,6,7,8,9,10] [] [11] (by kernel_rfl) (by kernel_rfl) (λ_ _ _ _ _ h=>h) i ?_;iterate 11(refine Qk (v:=?_) rfl rfl rfl ?_ ?_;rotate_left;focus(
  intro w' n;have S:=n.cell B id;have T:=n.cell C id;have U:=n.cell d id;go_simp
  try with_reducible rfl))
 refine Qj (Qh (Qu rfl (Qm ?_)));have L:=BX (A2 (H.out.1.no i) (H.out.2.then i));clear i d B C;go_wp2_with fail;go_ret;exact⟨rfl,L.out⟩
theorem Mq[bn:Ib]{base:Nat}{w:AC}{b:Nat}{pv:AM}{p rest:List UInt8}{at_ n:Nat}(h:DIn base w b pv p at_ (numB n++rest))(R:n<18446744073709551616) :
  DJ Tryz.prog 180 #[.pointer (AF ⟨b,0,AI⟩)] w λe w'=>e=.returned (.int .u64 n)/\DIn base w' b pv p (at_+(numB n).length) rest/\Xy (·=b) w w':=by
 have J:=h.lens;have H:=h.small;have D:=Qq h.blk 0;have B:=Qq h.blk 1;have E:=Qq h.blk 2;have P:=Qg h.blk;simp at D B E;have A:=λ(X:AC) (k:Xy No w X)=>Eb (h.bytes.no k) h.le h.left R h.small;obtain⟨ao,cap,rfl⟩:=h.bytes.form;have V:IntKind.i64.wrap ((at_:Int)+((numB n).length:Int))=((at_+(numB n).length:Nat):Int):=by rw[BO]at J;rw[PO];omega
 have C:=BX (A2 h A);generalize I:(numB n).length=j at *;have O:=BX I;clear h J H A I;go_enter Tryz.func180,Tryz.ntmps180;go_upto_region 3 with fail;have kd:Xy No w w.drew:=(Xy.refl _ _).drew;refine ZC (λw'=>Xy No w w') [0,1,2,3,4,5,6,7] [8,9] [10,11,12] [13,14,15] (by kernel_rfl) (by kernel_rfl) (λ_ _ _ _ _ h=>h) kd ?_;iterate 8(refine Qk (v:=?_) rfl rfl rfl ?_ ?_;rotate_left;focus(
  intro w' G;have S:=G.cell D id;have T:=G.cell B id;go_simp
  try with_reducible rfl))
 refine Qj (Qx rfl rfl (λK g=>?_));go_simp;refine(C.out.2 _ kd).mono ?_;rintro e W⟨rfl,F⟩;have F:=F.symm;subst F;refine g _ _ kd ?_;clear g K;refine Qx rfl rfl (λK g=>?_);go_simp;refine g _ _ kd ?_;clear g K;refine Qh ?_;iterate 3(refine Qk (v:=?_) rfl rfl rfl ?_ ?_;rotate_left;focus(
  intro w' G;go_simp
  try with_reducible rfl))
 refine Qj ?_;iterate 3(refine Qx rfl rfl (λK g=>?_);go_simp;refine g _ _ kd ?_;clear g K)
 refine Qh ?_;generalize w.drew=X at kd⊢;have m:=(C.out.1.no kd).step (q:=numB n) (rest':=rest) rfl;rw[O.out]at m;rw[show((at_+j:Nat):Int)=(at_:Int)+(j:Int)by omega]at m;have B:=kd.cell B id;have E:=kd.cell E id;have P:=Qg (C.out.1.no kd).blk;have M:Xy (·=b) X (X.setCell ⟨b,1,AI⟩ (.int .i64 ((at_:Int)+(j:Int)))):=Qd _ _;have U:(X.setCell ⟨b,1,AI⟩ (.int .i64 ((at_:Int)+(j:Int)))).cell? ⟨b,2,AI⟩=AF (.int .i64 0):=by rw[Qq m.blk 2];rfl
 have z:=Qz (i:=2) (u:=.int .i64 0) m.blk;have N:Xy (·=b) (X.setCell ⟨b,1,AI⟩ (.int .i64 ((at_:Int)+(j:Int)))) ((X.setCell ⟨b,1,AI⟩ (.int .i64 ((at_:Int)+(j:Int)))).setCell ⟨b,2,AI⟩ (.int .i64 0)):=Qd _ _;have d:=BX (A4 m z (kd.no.trans M (λ_ _ e=>e)) N);clear m z M N D kd;go_wp2_with fail;go_ret;have L:=d.out.2.1;simp only[List.setIfInBounds_toArray,List.set_cons_succ,List.set_cons_zero]at L;exact⟨rfl,⟨L,d.out.1.bytes.keep d.out.1.foot d.out.2.2.2,d.out.1.le,d.out.1.left,d.out.1.bb,d.out.1.small⟩,d.out.2.2.1.trans d.out.2.2.2 (λ_ _ e=>e)⟩
theorem Lu[bn:Ib](h:DIn base w b pv p at_ []) :
  DJ Tryz.prog 178 #[.pointer (AF ⟨b,0,AI⟩)] w λe w'=>e=.returned (.int .i64 0)/\Xy No w w':=by
 obtain⟨ao,cap,rfl⟩:=h.bytes.form;have m:=h.lens;have d:=Qq h.blk 0;have g:=Qq h.blk 1;have i:=Qq h.blk 2;simp at d g i;have q:¬(at_:Int)<(p.length:Int):=by simp at m;omega
 clear h m;go_enter Tryz.func178,Tryz.ntmps178;go_upto_region 1 with fail;have kd:Xy No w w.drew:=(Xy.refl _ _).drew;refine Ql (λw'=>Xy No w w') [0,1,2,3,4,5,6,7,8] [] [9] (by kernel_rfl) (by kernel_rfl) (λ_ _ _ _ _ h=>h) kd ?_;iterate 9(refine Qk (v:=?_) rfl rfl rfl ?_ ?_;rotate_left;focus(
  intro w' j;have z:=j.cell d id;have A:=j.cell g id;go_simp
  try with_reducible rfl))
 refine Qj (Qh (Qu rfl (Qm ?_)));have i:=kd.cell i id;have n:=BX kd;clear kd d g;go_wp2_with fail;go_ret;exact⟨rfl,n.out⟩
theorem JP[bn:Ib]{base:Nat}{w:AC}{b most:Nat}{pv:AM}{p q rest:List UInt8}{at_:Nat}(h:DIn base w b pv p at_ (numB q.length++(q++rest)))(S:q.length<=most)(N:most<=1073741824)(hb:base<=w.heap.size)(hT:ban.top<=w.heap.size) :
  DJ Tryz.prog 216 #[.pointer (AF ⟨b,0,AI⟩),.int .i64 most] w λe w'=>∃v,e=.returned v/\Kr w' w.heap.size v q/\DIn base w' b pv p (at_+((numB q.length).length+q.length)) rest/\Xy (·=b) w w':=by
 have hl:=h.lens;rw[BO,BO]at hl;have aC:=h.small;have V:=Qp (n:=q.length) (by omega);have E:=Qq h.blk 0;have D:=Qq h.blk 1;have O:=Qq h.blk 2;simp at E D O;have G:=λ(X:AC) (k:Xy No w X)=>Eb (h.bytes.no k) h.le h.left (by omega) h.small;obtain⟨ao,cap,aA⟩:=h.bytes.form;subst aA;have I:p.length<=cap:=by obtain⟨_,_,e,e2,_⟩:=h.bytes;simp only[DB]at e;omega
 obtain⟨n,U⟩:∃n,n=q.length:=⟨_,rfl⟩;obtain⟨d,P⟩:∃d,d=(numB q.length).length:=⟨_,rfl⟩;obtain⟨so,sc,aB,z⟩:=Ub ao p.length cap (at_+d) (at_+d+n) ((at_:Int)+(d:Int)) ((at_:Int)+(d:Int)+(n:Int)) (by omega) (by omega) (by omega) (by omega) I;have A:(p.take (at_+d+n)).drop (at_+d)=q:=by rw[List.drop_take,<- O0,h.left,P,PQ,show at_+(numB q.length).length+n-(at_+(numB q.length).length)=n by omega,U,List.take_left]
 rw[show at_+d+n-(at_+d)=n by omega]at aB z;rw[<- P]at G hl;rw[<- U]at G hl;rw[<- P]at V;rw[<- P];rw[<- U]at S⊢;have q1:IntKind.u64.wrap (most:Int)=(most:Int):=by rw[F0];omega
 have q2:¬(most:Int)<(n:Int):=by omega
 have q3:¬(most:Int)<0:=by omega
 have q4:IntKind.i64.wrap ((p.length:Int)-(at_:Int))=(p.length:Int)-(at_:Int):=by rw[PO];omega
 have q5:IntKind.i64.wrap ((p.length:Int)-(at_:Int)-(d:Int))=(p.length:Int)-(at_:Int)-(d:Int):=by rw[PO];omega
 have q6:IntKind.u64.wrap ((p.length:Int)-(at_:Int)-(d:Int))=(p.length:Int)-(at_:Int)-(d:Int):=by rw[F0];omega
 have q7:¬(p.length:Int)-(at_:Int)-(d:Int)<(n:Int):=by omega
 have q8:IntKind.i64.wrap ((at_:Int)+(d:Int))=(at_:Int)+(d:Int):=by rw[PO];omega
 have q9:IntKind.i64.wrap (n:Int)=(n:Int):=by rw[PO];omega
 have aE:IntKind.i64.wrap ((at_:Int)+(d:Int)+(n:Int))=(at_:Int)+(d:Int)+(n:Int):=by rw[PO];omega
 have aF:IntKind.i64.wrap ((d:Int)+(n:Int))=(d:Int)+(n:Int):=by rw[PO];omega
 have aG:IntKind.i64.wrap ((at_:Int)+((d:Int)+(n:Int)))=(at_:Int)+((d:Int)+(n:Int)):=by rw[PO];omega
 have i:=BX (A9 h G z A U P hb hT (show n<=1073741824 by omega));clear h hl aC V G z A U P I hb hT S N;go_enter Tryz.func216,Tryz.ntmps216;go_upto_region 3 with fail;have kd:Xy No w w.drew:=(Xy.refl _ _).drew;refine ZC (λw'=>Xy No w w') [0,1,2,3,4,5,6,7] [8,9] [10,11,12] [13,14,15] (by kernel_rfl) (by kernel_rfl) (λ_ _ _ _ _ h=>h) kd ?_;iterate 8(refine Qk (v:=?_) rfl rfl rfl ?_ ?_;rotate_left;focus(
  intro w' R;have e0:=R.cell E id;have e1:=R.cell D id;go_simp
  try with_reducible rfl))
 refine Qj (Qx rfl rfl (λK g=>?_));go_simp;refine(i.out.2.1 _ kd).mono ?_;rintro e w2⟨rfl,e2⟩;have e2:=e2.symm;subst e2;refine g _ _ kd ?_;clear g K;refine Qx rfl rfl (λK g=>?_);go_simp;refine g _ _ kd ?_;clear g K;refine Qh ?_;iterate 3(refine Qk (v:=?_) rfl rfl rfl ?_ ?_;rotate_left;focus(
  intro w' R;go_simp
  try with_reducible rfl))
 refine Qj ?_;iterate 3(refine Qx rfl rfl (λK g=>?_);go_simp;refine g _ _ kd ?_;clear g K)
 refine Qh ?_;generalize w.drew=X at kd⊢;have E:=kd.cell E id;have D:=kd.cell D id;have O:=kd.cell O id;have HX:=BX kd;clear kd;go_upto_region 6 with fail;have kd:Xy No X X.drew:=(Xy.refl _ _).drew;refine Vr (λw'=>Xy No X w') [([0,1,2],[]),([3,4,5,6,7,8,9,10,11,12,13,14,15,16,17],[18])] (by kernel_rfl) (by kernel_rfl) (λ_ _ _ _ _ h=>h) kd ?_;iterate 3(refine Qk (v:=?_) rfl rfl rfl ?_ ?_;rotate_left;focus(
  intro w' S;go_simp
  try with_reducible rfl))
 refine Qj ?_;refine Qh ?_;iterate 15(refine Qe (v:=?_) rfl rfl (by first|kernel_rfl|simp[Region.wanted,yielded,Act.put,undef]) ?_ ?_;rotate_left;focus(
  intro w' S;have e0:=S.cell E id;have e1:=S.cell D id;go_simp
  try with_reducible rfl))
 refine Qj ?_;refine Qx rfl rfl (λK g=>?_);go_simp;refine g _ _ kd ?_;clear g K;refine Qh ?_;unfold Vp;generalize X.drew=Y at kd⊢;have E:=kd.cell E id;have D:=kd.cell D id;have O:=kd.cell O id;have Z:=BX (HX.out.then kd);clear kd q4 q5 q6 q7;go_upto_region 11 with fail;have kd:Xy No Y Y.drew:=(Xy.refl _ _).drew;refine Ql (λw'=>Xy No Y w') [0,1,2,3,4,5,6,7,8,9,10,11,12,13,14,15,16,17,18] [19,20,21] [22] (by kernel_rfl) (by kernel_rfl) (λ_ _ _ _ _ h=>h) kd ?_;iterate 19(refine Qk (v:=?_) rfl rfl rfl ?_ ?_;rotate_left;focus(
  intro w' R;have e0:=R.cell E id;have e1:=R.cell D id;go_simp
  try with_reducible rfl))
 refine Qj (Qx rfl rfl (λK g=>?_));go_simp;refine g _ _ kd ?_;clear g K;have L:=i.out.qc base _ p (i.out.1.bytes.no (Z.out.then kd));rw[i.out.qd]at L;have W:=X5 L;have M:=Xv W (by have:=i.out.qe;have:=i.out.ri;simp;omega);have he:[q].flatten=q:=by simp
 rw[he]at M;have kA:=kd.alloc (.cells #[.slice so n sc] 59);refine Qx rfl rfl (λK g=>?_);go_simp;refine g _ _ kA ?_;clear g K;refine Qx rfl rfl (λK g=>?_);go_simp;refine M.mono ?_;rintro e w5⟨v5,rfl,C,k5⟩;have B:=kA.then k5;refine g _ _ B ?_;clear g K;obtain⟨o5,c5,rfl⟩:=C.form;have F:=i.out.1.no (Z.out.then B);have H:=F.step (q:=numB q.length++q) (rest':=rest) (by rw[B7]);have J:(numB n).length=d:=by rw[i.out.qe];exact i.out.2.2.2.2.2.1.symm
 have T:((at_+(numB q.length++q).length:Nat):Int)=(at_:Int)+((d:Int)+(n:Int)):=by rw[BO,<- i.out.qe,J];omega
 rw[T]at H;rw[BO,<- i.out.qe,J]at H;have D:=B.cell D id;have f5:=Qg F.blk;have j:Kr w5 w.heap.size (.slice o5 q.length c5) q:=C.mono (Z.out.then kA).size;have k6:Xy (·=b) w5 (w5.setCell ⟨b,1,AI⟩ (.int .i64 ((at_:Int)+((d:Int)+(n:Int))))):=Qd _ _;have m:=j.keep k6 (λc hc e=>by
  obtain⟨_,aD,hz⟩:=Qa j c hc;have e:c=b:=e;rw[e,F.blk]at hz
  simp at hz)
 have HZ:=BX (A3 H m (((Z.out.then B).no).trans k6 (λ_ _ e=>e)));clear J H m j k6 F C B k5 kA kd M W L he T E O;refine Qh (Qu rfl (Qm ?_));go_wp2_with fail;go_ret;exact⟨_,rfl,HZ.out.2.1,HZ.out.1,HZ.out.2.2⟩
theorem Wa{s:Ys}(h:s.Right)(rest:List UInt8):∃c:Nat,s.c=(c:Int)/\c<8/\s.bytes++rest=D7 c::(numB s.body.length++(s.body++rest))/\s.bytes.length=1+((numB s.body.length).length+s.body.length):=by
 obtain⟨g,i,j⟩:=h;obtain⟨c,d⟩:∃c:Nat,s.c=(c:Int):=⟨s.c.toNat,by omega⟩;have e:((c:Int)%256).toNat=c:=by omega
 refine⟨c,d,by omega,?_,?_⟩
 ·unfold Ys.bytes;rw[d,e];simp
 ·unfold Ys.bytes;simp;omega
theorem UQ[bn:Ib]{base:Nat}{w:AC}{b:Nat}{pv:AM}{p rest:List UInt8}{at_:Nat}{s:Ys}(h:DIn base w b pv p at_ (s.bytes++rest))(U:s.Right)(hb:base<=w.heap.size)(Z:ban.top<=w.heap.size) :
  DJ Tryz.prog 209 #[.pointer (AF ⟨b,0,AI⟩)] w λe w'=>∃v,e=.returned (.agg #[.int .i64 s.c,v])/\Kr w' w.heap.size v s.body/\DIn base w' b pv p (at_+s.bytes.length) rest/\Xy (·=b) w w':=by
 obtain⟨c,hc,T,he,z⟩:=Wa U rest;rw[he]at h;rw[z,hc];obtain⟨W,O⟩:∃W,W=w.alloc (.cells #[.int .i64 0,.slice AI 0 0] 173):=⟨_,rfl⟩;have Y:Xy No w W:=by rw[O];exact(Xy.refl _ _).alloc _
 have hZ:W.heap[w.heap.size]?=AF (.cells #[.int .i64 0,.slice AI 0 0] 173 (0,0)):=by rw[O];exact Qy _ _
 have C:=Mp (h.no Y);have I:((D7 c).toNat:Int)=(c:Int):=by rw[Gl c (by omega)]
 rw[I]at C;have q1:¬(7:Int)<(c:Int):=by omega
 have q2:IntKind.i64.wrap (c:Int)=(c:Int):=by rw[PO];omega
 have H:=Qt h.blk;have m:=BX (A7 h U hb Z Y hZ H);clear h U hb Z hc T he z Y hZ I H;go_enter Tryz.func209,Tryz.ntmps209;go_upto_region 1 with fail;rw[<- O];clear O;go_upto_region 4 with(go_at_call 176;refine C.mono ?_;rintro e w1 ⟨rfl,F,K⟩);clear C q1;have J:=JP (most:=4096) F m.out.2.1.2.2 (by decide) (BF m.out.qc (BF m.out.2.2.2.2.1.size K.size)) (BF m.out.qd (BF m.out.2.2.2.2.1.size K.size));have n:¬w.heap.size=b:=by have:=m.out.rg;omega
 have G:=K.heap m.out.qf n;have M:=BX (A2 (m.out.2.2.2.2.1.no.trans K (λ_ _ e=>e)) G);clear F K G;go_upto_region 5 with(go_at_call 216;refine J.mono ?_;rintro e R ⟨v2,rfl,d,B,X⟩);clear J;obtain⟨P,N,rfl⟩:=d.form;have j:=X.heap M.out.2 n;have d2:=Qq B.blk 2;have z0:=Qq j 0;have z1:=Qq j 1;have fZ:=Qg j;simp at d2 z0 z1;have V:=BF m.out.2.2.2.2.1.size (BE _);have q:=BX (A6 (d.mono M.out.1.size) B (M.out.1.trans X (λ_ _ e=>e)) j n d);clear d B X j n V;go_wp2_with fail;have S:=Qz (i:=0) (u:=.int .i64 c) q.out.qd;have A:=Qz (i:=1) (u:=.slice P s.body.length N) S;have L:Xy (·=w.heap.size) R ((R.setCell ⟨w.heap.size,0,AI⟩ (.int .i64 c)).setCell ⟨w.heap.size,1,AI⟩ (.slice P s.body.length N)):=(Qd (g:=w.heap.size) (i:=0) R (.int .i64 c)).setCell (p:=⟨w.heap.size,1,AI⟩) (.inl rfl) _;generalize ((R.setCell ⟨w.heap.size,0,AI⟩ (.int .i64 c)).setCell ⟨w.heap.size,1,AI⟩ (.slice P s.body.length N))=W3 at A L⊢;have y0:=Qq A 0;have y1:=Qq A 1;simp at y0 y1;refine FC (v:=.agg #[.int .i64 c,.slice P s.body.length N]) (by simp[results,Tryz.results209,go_sem,y0,y1]) rfl ?_;refine⟨_,rfl,q.out.1.keep L (λx E e=>?_),?_,q.out.2.2.1.trans L (λx E e=>by have e:x=w.heap.size:=e;omega)⟩
 ·have h1:=(Kr.lt q.out.rf x E).1;have h2:=Qt M.out.2;have e:x=w.heap.size:=e;omega
 ·have D:=q.out.2.1;rw[show at_+(1+((numB s.body.length).length+s.body.length))=at_+1+((numB s.body.length).length+s.body.length)by omega];refine⟨L.heap D.blk (λe=>q.out.qe (by have e:b=w.heap.size:=e;omega)),D.bytes.keep (λx E=>?_) L,D.le,D.left,D.bb,D.small⟩;have E:x=w.heap.size:=E;subst E;exact⟨m.out.qc,Qt q.out.qd,λcs fr e=>by have:=q.out.qd;rw[this]at e;simp at e⟩
theorem Oq[bn:Ib]{base:Nat}{w:AC}{b:Nat}{pv:AM}{p rest:List UInt8}{at_:Nat}{x:Qc}(h:DIn base w b pv p at_ (x.bytes++rest))(hs:x.Right)(hb:base<=w.heap.size)(hT:ban.top<=w.heap.size) :
  DJ Tryz.prog 181 #[.pointer (AF ⟨b,0,AI⟩)] w λe w'=>∃v,e=.returned (.agg #[.int .u64 x.n,.int .i64 x.s.c,v])/\Kr w' w.heap.size v x.s.body/\DIn base w' b pv p (at_+x.bytes.length) rest/\Xy (·=b) w w':=by
 have he:x.bytes++rest=numB x.n++(x.s.bytes++rest):=by unfold Qc.bytes;rw[B7]
 have B:x.bytes.length=(numB x.n).length+x.s.bytes.length:=by unfold Qc.bytes;rw[BO]
 rw[he]at h;rw[B];obtain⟨W,Z⟩:∃W,W=w.alloc (.cells #[.int .u64 0,.int .i64 0,.slice AI 0 0] 206):=⟨_,rfl⟩;have kW:Xy No w W:=by rw[Z];exact(Xy.refl _ _).alloc _
 have hZ:W.heap[w.heap.size]?=AF (.cells #[.int .u64 0,.int .i64 0,.slice AI 0 0] 206 (0,0)):=by rw[Z];exact Qy _ _
 have T:=Mq (h.no kW) (by have:=hs.1;omega);have R:=Qt h.blk;have m:=BX (A7 h hs hb hT kW hZ R);clear h hs hb hT he B kW hZ R;go_enter Tryz.func181,Tryz.ntmps181;go_upto_region 1 with fail;rw[<- Z];clear Z;go_upto_region 2 with(go_at_call 180;refine T.mono ?_;rintro e w1 ⟨rfl,J,U⟩);clear T;have P:=BF m.out.qc (BF m.out.2.2.2.2.1.size U.size);have L:=BF m.out.qd (BF m.out.2.2.2.2.1.size U.size);have S:=UQ J m.out.2.1.2 P L;have z:¬w.heap.size=b:=by have:=m.out.rg;omega
 have N:=U.heap m.out.qf z;have X:=BX (A2 (m.out.2.2.2.2.1.no.trans U (λ_ _ e=>e)) N);clear J U N P L;go_upto_region 3 with(go_at_call 209;refine S.mono ?_;rintro e w2 ⟨v2,rfl,d,K,k2⟩;obtain⟨E,C,rfl⟩:=d.form);clear S;have O:=k2.heap X.out.2 z;have I:=(Xy.refl No w2).alloc (.cells #[.int .i64 x.s.c,.slice E x.s.body.length C] 173);have Y:=Qy w2 (.cells #[.int .i64 x.s.c,.slice E x.s.body.length C] 173);obtain⟨F,M⟩:∃F,F=w2.alloc (.cells #[.int .i64 x.s.c,.slice E x.s.body.length C] 173):=⟨_,rfl⟩;rw[<- M]at I Y⊢;clear M;have D:=K.no I;have j:=I.heap O id;have d2:=Qq D.blk 2;have s0:=Qq Y 0;have s1:=Qq Y 1;have z0:=Qq j 0;have z1:=Qq j 1;have z2:=Qq j 2;have fZ:=Qg j;simp at d2 s0 s1 z0 z1 z2;have A:=BX (A6 ((d.mono X.out.1.size).keep I (λ_ _ e=>e)) D ((X.out.1.trans k2 (λ_ _ e=>e)).then I) j z d);clear d K D k2 O j z I Y;go_wp2_with fail;have aA:=Qz (i:=0) (u:=.int .u64 x.n) A.out.qd;have aB:=Qz (i:=1) (u:=.int .i64 x.s.c) aA;have q:=Qz (i:=2) (u:=.slice E x.s.body.length C) aB;have V:Xy (·=w.heap.size) F (((F.setCell ⟨w.heap.size,0,AI⟩ (.int .u64 x.n)).setCell ⟨w.heap.size,1,AI⟩ (.int .i64 x.s.c)).setCell ⟨w.heap.size,2,AI⟩ (.slice E x.s.body.length C)):=((Qd (g:=w.heap.size) (i:=0) F (.int .u64 x.n)).setCell (p:=⟨w.heap.size,1,AI⟩) (.inl rfl) _).setCell (p:=⟨w.heap.size,2,AI⟩) (.inl rfl) _;generalize (((F.setCell ⟨w.heap.size,0,AI⟩ (.int .u64 x.n)).setCell ⟨w.heap.size,1,AI⟩ (.int .i64 x.s.c)).setCell ⟨w.heap.size,2,AI⟩ (.slice E x.s.body.length C))=W4 at q V⊢;have y0:=Qq q 0;have y1:=Qq q 1;have y2:=Qq q 2;simp at y0 y1 y2;refine FC (v:=.agg #[.int .u64 x.n,.int .i64 x.s.c,.slice E x.s.body.length C]) (by simp[results,Tryz.results181,go_sem,y0,y1,y2]) rfl ?_;refine⟨_,rfl,A.out.1.keep V (λy H e=>?_),?_,A.out.2.2.1.trans V (λy H e=>by have e:y=w.heap.size:=e;omega)⟩
 ·have h1:=(Kr.lt A.out.rf y H).1;have h2:=Qt X.out.2;have e:y=w.heap.size:=e;omega
 ·have G:=A.out.2.1;rw[show at_+((numB x.n).length+x.s.bytes.length)=at_+(numB x.n).length+x.s.bytes.length by omega];refine⟨V.heap G.blk (λe=>A.out.qe (by have e:b=w.heap.size:=e;omega)),G.bytes.keep (λy H=>?_) V,G.le,G.left,G.bb,G.small⟩;have H:y=w.heap.size:=H;subst H;exact⟨m.out.qc,Qt A.out.qd,λcs fr e=>by have:=A.out.qd;rw[this]at e;simp at e⟩
def Us [bn:Ib]{α:Type}(base:Nat)(w:AC)(t:DW)(c:Nat)(f:α->AM->List AM)(bd:α->List UInt8)(v:AM)(l:List α):Prop :=
 ∃xs:List (α×AM),xs.map (·.1)=l/\(∀x∈xs,Qv base w x.2 (bd x.1))/\w.ownsRow base t c v l.length (xs.flatMap λx=>f x.1 x.2)
theorem Bc{β:Type}(f:β->List AM)(c:Nat)(d:∀x,(f x).length=c):∀{l:List β} {i j:Nat} {x:β},l[i]?=AF x->j<c->(l.flatMap f)[i*c+j]?=(f x)[j]?
 | [],i,j,x,h,_=>by simp at h
 | y::l,0,j,x,h,g=>by
  simp at h
  subst h
  rw[EL,List.getElem?_append_left (by rw[d];omega)]
  simp
 | y::l,i+1,j,x,h,g=>by
  rw[List.getElem?_cons_succ]at h
  have m:=Bc f c d h g
  rw[EL,List.getElem?_append_right (by rw[d,OT];omega),d,show(i+1)*c+j-c=i*c+j by rw[OT];omega]
  exact m
section
variable [bn:Ib]{α:Type}{base:Nat}{w w':AC}{t:DW}{c:Nat}{f:α->AM->List AM}{bd:α->List UInt8}{v:AM}{l:List α}
theorem Us.nil(base:Nat)(w:AC)(t:DW)(c:Nat)(f:α->AM->List AM)(bd:α->List UInt8):Us base w t c f bd (.slice AI 0 0) []:=⟨[],rfl,λx d=>by simp at d,World.ownsRow_nil _ _ _ _⟩
theorem Us.form(h:Us base w t c f bd v l):∃ao cap,v=.slice ao l.length cap/\l.length<=cap/\cap<=maxLen:=by obtain⟨xs,_,_,d⟩:=h;exact Kj d
theorem Us.kind(h:Us base w t c f bd v l):∀b,v.ownBlock=AF b->base<=b/\∃d,w.heap[b]?=AF (.cells d t (0,0)):=by obtain⟨xs,_,_,g⟩:=h;exact Qa g
theorem Us.keep(h:Us base w t c f bd v l)(hF:Uz base w F)(k:Xy F w w')(j:∀b,v.ownBlock=AF b->¬F b):Us base w' t c f bd v l:=by obtain⟨xs,d,g,i⟩:=h;exact⟨xs,d,λx m=>(g x m).keep hF k,Yu i k j⟩
theorem Us.no(h:Us base w t c f bd v l)(k:Xy No w w'):Us base w' t c f bd v l:=h.keep (Uz.no _ _) k (λ_ _ e=>e)
theorem Us.block{g:Nat}{cs:Array AM}{m:DW}{fr:Nat×Nat}(h:Us base w t c f bd v l)(j:w.heap[g]?=AF (.cells cs m fr))(B:base<=g)(A:m≠5)(C:t≠m)(k:Xy (·=g) w w'):Us base w' t c f bd v l :=
 h.keep (λb e=>by
  have e:b=g:=e
  subst e
  exact⟨B,Qt j,λn z e=>by rw[j]at e;simp at e;exact A e.2.1⟩) k (λb d e=>by
  obtain⟨_,q,i⟩:=h.kind b d
  have e:b=g:=e
  rw[e,j]at i
  simp at i
  exact C i.2.1.symm)
theorem Us.at'(h:Us base w t c f bd (.slice ao n cap) l)(B:∀y u,(f y u).length=c)(hi:l[i]?=AF x) :
  ∃g u,ao=AF ⟨g,0,AI⟩/\Qv base w u (bd x)/\base<=g/\g<w.heap.size/\∀(j:Nat) z,(f x u)[j]?=AF z->w.cell? ⟨g,i*c+j,AI⟩=AF z:=by
 obtain⟨xs,rfl,F,J,G⟩:=h;rw[CK]at hi;cases d:xs[i]? with
 | none=>rw[d]at hi;simp at hi
 | some y =>
  rw[d]at hi;simp at hi;subst hi;have hi:=(BK.1 d).1;have N:0<(xs.map (·.1)).length:=by rw[List.length_map];omega
  rcases G with⟨_,e⟩|⟨g,A,E,e,I,D,K,L,M,H⟩
  ·omega
  ·simp only[DB]at e;obtain⟨rfl,_,_⟩:=e;refine⟨g,y.2,rfl,F y (FB d),I,Qt D,λj z C=>?_⟩;have q:j<c:=by rw[<- B y.1 y.2];exact(BK.1 C).1
   have m:=Bc (λx:α×AM=>f x.1 x.2) c (λx=>B x.1 x.2) d q;rw[C,<- H,BI]at m
   split at m
   ·rw[Qq D];simpa using m
   ·simp at m
end
section
variable [bn:Ib]{α:Type}{base:Nat}{w:AC}{te:DW}{c:Nat}{f:α->AM->List AM}{bd:α->List UInt8}{v:AM}{l:List α}{ops:Array Oper}{rest:List Oper}{o:Oper}{a:Act}{Q:Exit->Act->AC->Prop}
theorem NX(h:w.ownsRow base te c v n cs)(m:∀b,v.ownBlock=AF b->B<=b):w.ownsRow B te c v n cs:=by
 refine⟨h.1,?_⟩;rcases h.2 with h|⟨g,cap,d,rfl,q,i,j⟩
 ·exact .inl h
 ·exact .inr ⟨g,cap,d,rfl,m g rfl,i,j⟩
theorem Nd(hg:o.guard=AI)(s x:Operand)(ts:DW)(ho:o.op=.call {callee:=.builtin .append,args:=#[s,x],argTypes:=#[ts,ts]})(hu:Tryz.prog.underlying ts=AF (.slice te)){bytes:Nat}(hi:(Tryz.prog.info? te).map (λi=>(i.zero,i.size,i.bytes))=AF (AF z,c,bytes))(P:z.cells.size=c)(hc:0<c)(F:bytes<=64)(J:te≠5)(h:Us base w te c f bd v l)(hs:a.eval s=v)(Z:w.heap[D]?=AF (.cells T te (0,0)))(G:T.toList=f y u)(V:∀q∈f y u,q.oneCell'=true)(hf:(f y u).length=c)(hx:a.eval x=.slice (AF ⟨D,0,AI⟩) 1 1)(L:Qv base w u (bd y))(hl:l.length<=1099511627776)(n:base<=w.heap.size)(E:base<=B)(Y:∀b,v.ownBlock=AF b->B<=b)(A:B<=w.heap.size)(hK:∀S R w',Us base w' te c f bd (.slice S (l.length+1) R) (l++[y])->(∀b,(Value.slice S (l.length+1) R).ownBlock=AF b->B<=b)->Xy (λb=>v.ownBlock=AF b) w w'->wpList Tryz.prog ops Q rest (a.put o.dst (.slice S (l.length+1) R)) w'):wpList Tryz.prog ops Q (o::rest) a w:=by
 obtain⟨xs,W,X,U⟩:=h;obtain⟨i0,I,M,N,O⟩:=info_parts hi;refine wpList_plain hg λK C=>?_;refine wp_append_lies w s x ts ho B te i0 _ c bytes hu I M N O P hc v l.length _ hs (NX U Y)
  ⟨D,0,AI⟩ 1 1 (f y u) hx (by rw[hf];omega) (by rw[<- G];exact World.news_of_block Z) V (by omega) (by unfold maxLen;omega) (BF (PR _ F) (by omega)) A w.heap.size rfl ?_
 intro g cap w' d H aA aB;have k:=Jr H;have hF:=Df U (BE _) J;refine C _ _ (hK _ _ _ ⟨xs++[(y,u)],by simp[W],λq m=>?_,?_⟩ (λb n=>(Qa d b n).1) k)
 ·rcases List.mem_append.1 m with m|m
  ·exact(X q m).keep hF k
  ·rw[List.mem_singleton.1 m];exact L.keep hF k
 ·rw[List.flatMap_append,BO];have j:=NX d (B:=base) (λb n=>BF E (Qa d b n).1);simpa using j
theorem Pe(hg:o.guard=AI)(s x:Operand)(ts:DW)(ho:o.op=.call {callee:=.builtin .append,args:=#[s,x],argTypes:=#[ts,ts]})(hu:Tryz.prog.underlying ts=AF (.slice te)){bytes:Nat}(hi:(Tryz.prog.info? te).map (λi=>(i.zero,i.size,i.bytes))=AF (AF z,c,bytes))(aC:z.cells.size=c)(hc:0<c)(T:bytes<=64)(W:te≠5)(hf:∀y u,(f y u).length=c)(h1:∀y u,u.oneCell'=true->∀q∈f y u,q.oneCell'=true)(n:w.ownsRow B te c C 0 [])(hB:base<=B)(S:B<=w.heap.size)(hs:a.eval s=C)(h:Us base w te c f bd v l)(M:a.eval x=v)(hl:l.length<=1099511627776)(hK:∀D w',Us base w' te c f bd D l->(∀b,D.ownBlock=AF b->B<=b)->Xy (λb=>C.ownBlock=AF b) w w'->wpList Tryz.prog ops Q rest (a.put o.dst D) w'):wpList Tryz.prog ops Q (o::rest) a w:=by
 obtain⟨xs,h2,h3,h4⟩:=h;obtain⟨i0,I,Z,aA,aB⟩:=info_parts hi;have hF:Uz base w (λb=>C.ownBlock=AF b):=λb H=>by
  obtain⟨g1,d,N⟩:=Qa n b H;exact⟨by omega,Qt N,λcs fr e=>by rw[N]at e;simp at e;exact W e.2.1⟩
 refine wpList_plain hg λK F=>?_;have aE:=h4;obtain⟨U,J⟩:=h4;rcases J with⟨Y,hn⟩|⟨g,cap,d,Y,aG,N,aH,aF,aD,X⟩
 ·have V:l=[]:=List.eq_nil_of_length_eq_zero hn;subst V;subst Y;have m:=run_append_owned_none (P:=Tryz.prog) w B ts o.type te i0 c hu I C 0 [] n;unfold Oper.wp;simp[execOp,ho,resolve,invoke,builtin,hs,M,m,BS];refine F _ _ (hK C w ⟨[],rfl,λq A=>by simp at A,n.1,?_⟩ (λb H=>(Qa n b H).1) (Xy.refl _ _));rcases n.2 with n|⟨g,cap,d,O,e2,R⟩
  ·exact .inl n
  ·exact .inr ⟨g,cap,d,O,by omega,R⟩
 ·subst Y;obtain⟨D,w',m,h5,h6,_⟩:=run_append_own (P:=Tryz.prog) w B ts o.type te i0 z c bytes hu I Z aA aB aC hc C 0 [] n
   ⟨g,0,AI⟩ l.length cap (xs.flatMap λx=>f x.1 x.2) U (λj y L=>by
    have G:(⟨g,0,AI⟩:Addr).add j=⟨g,0+j,AI⟩:=by unfold Addr.add;split<;>simp_all
    rw[G,Qq N,Nat.zero_add];rw[<- X,BI]at L
    split at L
    ·simpa using L
    ·simp at L) (λq A=>by
    obtain⟨x,M,A⟩:=List.mem_flatMap.1 A;obtain⟨uo,uc,e⟩:=(h3 x M).form
    exact h1 x.1 x.2 (by rw[e];rfl) q A) (by unfold maxLen;omega) (BF (PR _ T) (by omega)) S
  unfold Oper.wp;simp[execOp,ho,resolve,invoke,builtin,hs,M,m,BS];have k:=Jr h6;refine F _ _ (hK D w' ⟨xs,h2,λq A=>(h3 q A).keep hF k,?_⟩ (λb H=>(Qa h5 b H).1) k);have E:w'.ownsRow B te c D l.length (xs.flatMap λx=>f x.1 x.2):=by simpa using h5
  refine⟨E.1,?_⟩;rcases E.2 with n|⟨g,cap,d,O,e2,R⟩
  ·exact .inl n
  ·exact .inr ⟨g,cap,d,O,by omega,R⟩
end
def ZA (x:Qc)(u:AM):List AM:=[.int .u64 x.n,.int .i64 x.s.c,u]
def Gs [bn:Ib](base:Nat)(w:AC)(v:AM)(l:List Qc):Prop:=Us base w 206 3 ZA (·.s.body) v l
def Hy [bn:Ib](base:Nat)(w:AC)(v:AM)(l:List Hk):Prop:=Us base w 175 4 Jd (·.s.body) v l
theorem JZ:(Tryz.prog.info? 206).map (λi=>(i.zero,i.size,i.bytes))=AF (AF (.agg #[.int .u64 0,.int .i64 0,.slice AI 0 0]),3,40):=by kernel_rfl
theorem Q7:(Tryz.prog.info? 175).map (λi=>(i.zero,i.size,i.bytes))=AF (AF (.agg #[.int .i64 0,.int .u64 0,.int .i64 0,.slice AI 0 0]),4,48):=by kernel_rfl
theorem Hw{cs:Array AM}(h:∀(i:Nat) (v:AM),cs[i]?=AF v->v.oneCell'=true)(g:u.oneCell'=true):∀(i:Nat) (v:AM),(cs.setIfInBounds j u)[i]?=AF v->v.oneCell'=true:=λi v d=>by
 rw[I3]at d
 split at d
 ·split at d
  ·simp at d;subst d;exact g
  ·simp at d
 ·exact h i v d
theorem Zt{cs:Array AM}(h:i≠j):(cs.setIfInBounds j u)[i]?=cs[i]?:=by rw[I3,if_neg (λe=>h e.symm)]
theorem Gn{cs:Array AM}(h:j<cs.size):(cs.setIfInBounds j u)[j]?=AF u:=by rw[I3,if_pos rfl,if_pos h]
structure Hj [bn:Ib](base:Nat)(w:AC)(cs:Array AM)(inc:Nat)(now:List (Nat×Xn))(recs:List Hk)(k:Nat):Prop where
 size:cs.size=66
 one:∀(i:Nat) (v:AM),cs[i]?=AF v->v.oneCell'=true
 len:now.length=16
 inc:cs[0]?=AF (Mh inc)
 ags:∀(a:Nat) g,now[a]?=AF g->cs[1+a]?=AF (Mh g.1)/\cs[17+a*3]?=AF (Mh g.2.low)/\cs[17+a*3+1]?=AF (Mh g.2.width)/\∃v,cs[17+a*3+2]?=AF v/\Rq w v g.2 k
 recs:∃lv,cs[65]?=AF lv/\Hy base w lv recs
section
variable [bn:Ib]{base:Nat}{w w':AC}{cs:Array AM}{inc k:Nat}{now:List (Nat × Xn)}{recs:List Hk}
theorem Hj.no(h:Hj base w cs inc now recs k)(d:Xy No w w'):Hj base w' cs inc now recs k:=by obtain⟨lv,z,A⟩:=h.recs;refine⟨h.size,h.one,h.len,h.inc,λa g B=>?_,lv,z,A.no d⟩;obtain⟨i,j,m,v,n,q⟩:=h.ags a g B;exact⟨i,j,m,v,n,q.no d⟩
theorem Hj.keep(h:Hj base w cs inc now recs k)(E:Xy F w w')(hF:∀x,F x->base<=x/\∃i,w.heap[x]?=AF (.cells i 168 (0,0))):Hj base w' cs inc now recs k:=by
 obtain⟨lv,K,D⟩:=h.recs;have q:Uz base w F:=λx M=>by
  obtain⟨n,i,j⟩:=hF x M;exact⟨n,Qt j,λcs fr e=>by rw[j]at e;simp at e⟩
 refine⟨h.size,h.one,h.len,h.inc,λa g L=>?_,lv,K,D.keep q E (λb z A=>?_)⟩
 ·obtain⟨n,j,G,v,H,l,C,I,J⟩:=h.ags a g L;refine⟨n,j,G,v,H,l,C.keep E (λb z A=>?_),I,J⟩;obtain⟨_,m,B⟩:=C.kind b z;obtain⟨_,i,d⟩:=hF b A;rw[B]at d;simp at d
 ·obtain⟨_,m,B⟩:=D.kind b z;obtain⟨_,i,d⟩:=hF b A;rw[B]at d;simp at d
theorem Hj.all(h:Hj base w cs inc now recs k):cs.all (·.oneCell')=true:=by rw[PS];intro i hi;exact h.one i _ (Array.getElem?_eq_getElem hi)
theorem Hj.info(h:Hj base w cs inc now recs k):(Tryz.prog.info? 168).map (·.size)=AF cs.size:=by rw[h.size];exact Lz
theorem Hj.setInc(h:Hj base w cs inc now recs k)(n:Nat):Hj base w (cs.setIfInBounds 0 (.int .u64 n)) n now recs k:=by obtain⟨lv,z,A⟩:=h.recs;refine⟨by simp[h.size],Hw h.one rfl,h.len,Gn (by rw[h.size];decide),λa g B=>?_,lv,by rw[Zt (by decide)];exact z,A⟩;obtain⟨d,i,j,v,m,q⟩:=h.ags a g B;exact⟨by rw[Zt (by omega)];exact d,by rw[Zt (by omega)];exact i,by rw[Zt (by omega)];exact j,v,by rw[Zt (by omega)];exact m,q⟩
theorem Hj.setFloor(h:Hj base w cs inc now recs k){a n:Nat}(F:a<16):Hj base w (cs.setIfInBounds (1+a) (.int .u64 n)) inc (now.modify a (λx=>(n,x.2))) recs k:=by
 obtain⟨lv,C,D⟩:=h.recs;refine⟨by simp[h.size],Hw h.one rfl,by simp[h.len],by rw[Zt (by omega)];exact h.inc,λb g d=>?_,lv,by rw[Zt (by omega)];exact C,D⟩;have E:=(BK.1 d).1;rw[PT,h.len]at E;rw[HU]at d;cases j:now[b]? with
 | none=>rw[j]at d;simp at d
 | some y =>
  rw[j]at d;simp at d;obtain⟨B,m,q,v,z,A⟩:=h.ags b y j;by_cases i:a=b
  ·subst i;simp at d;subst d;exact⟨Gn (by rw[h.size];omega),by rw[Zt (by omega)];exact m,by rw[Zt (by omega)];exact q,v,by rw[Zt (by omega)];exact z,A⟩
  ·simp[i]at d;subst d;exact⟨by rw[Zt (by omega)];exact B,by rw[Zt (by omega)];exact m,by rw[Zt (by omega)];exact q,v,by rw[Zt (by omega)];exact z,A⟩
theorem Hj.setPut(h:Hj base w cs inc now recs k)(M:a<16)(K:k<=k')(J:Rq w (.slice D C B) y k')(L:Hy base w (.slice lo A q) d) :
  Hj base w ((((cs.setIfInBounds (17+a*3) (.int .u64 y.low)).setIfInBounds (17+a*3+1) (.int .u64 y.width)).setIfInBounds (17+a*3+2) (.slice D C B)).setIfInBounds 65 (.slice lo A q)) inc (now.modify a (λx=>(x.1,y))) d k':=by
 refine⟨by simp[h.size],Hw (Hw (Hw (Hw h.one rfl) rfl) rfl) rfl,by simp[h.len],by rw[Zt (by omega),Zt (by omega),Zt (by omega),Zt (by omega)];exact h.inc,λb g i=>?_,_,Gn (by simp[h.size]),L⟩;have I:=(BK.1 i).1;rw[PT,h.len]at I;rw[HU]at i;cases m:now[b]? with
 | none=>rw[m]at i;simp at i
 | some z =>
  rw[m]at i;simp at i;obtain⟨n,E,F,v,G,H⟩:=h.ags b z m;by_cases j:a=b
  ·subst j;simp at i;subst i;refine⟨by rw[Zt (by omega),Zt (by omega),Zt (by omega),Zt (by omega)];exact n,by rw[Zt (by omega),Zt (by omega),Zt (by omega),Gn (by rw[h.size];omega)];rfl,by rw[Zt (by omega),Zt (by omega),Gn (by simp[h.size];omega)];rfl,_,by rw[Zt (by omega),Gn (by simp[h.size];omega)],J⟩
  ·simp[j]at i;subst i;exact⟨by rw[Zt (by omega),Zt (by omega),Zt (by omega),Zt (by omega)];exact n,by rw[Zt (by omega),Zt (by omega),Zt (by omega),Zt (by omega)];exact E,by rw[Zt (by omega),Zt (by omega),Zt (by omega),Zt (by omega)];exact F,v,by rw[Zt (by omega),Zt (by omega),Zt (by omega),Zt (by omega)];exact G,H.mono K⟩
theorem Hj.start(base width:Nat)(w:AC)(k:Nat):Hj base w (Yt width 16).toArray 0 (Xs.start width).now [] k:=by
 have A:(Yt width 16).toArray.size=66:=by have:=Pd width 16 (by decide);simpa using this
 have h:=VZ width 16;rw[PS]at h;refine⟨A,λi v B=>?_,by simp[Xs.now,Xs.start],rfl,λa g j=>?_,.slice AI 0 0,rfl,Us.nil _ _ _ _ _ _⟩
 ·obtain⟨hi,rfl⟩:=Array.getElem?_eq_some_iff.1 B;exact h i hi
 ·have q:g=(0,Xn.new width):=by
   unfold Xs.now Xs.start at j;rw[CK]at j;cases m:(List.replicate 16 (⟨0,Xn.new width,⟨0,0,[]⟩⟩:AgS))[a]? with
   | none=>rw[m]at j;simp at j
   | some z =>
    rw[m]at j;have:=List.eq_of_mem_replicate (FB m);subst this;simpa using j.symm
  have n:a<16:=by have:=(BK.1 j).1;simpa[Xs.now,Xs.start]using this
  subst q;have d:=Rq.nil w 0 width k
  match a,n with
  | 0,_=>exact⟨rfl,rfl,rfl,_,rfl,d⟩
  | 1,_=>exact⟨rfl,rfl,rfl,_,rfl,d⟩
  | 2,_=>exact⟨rfl,rfl,rfl,_,rfl,d⟩
  | 3,_=>exact⟨rfl,rfl,rfl,_,rfl,d⟩
  | 4,_=>exact⟨rfl,rfl,rfl,_,rfl,d⟩
  | 5,_=>exact⟨rfl,rfl,rfl,_,rfl,d⟩
  | 6,_=>exact⟨rfl,rfl,rfl,_,rfl,d⟩
  | 7,_=>exact⟨rfl,rfl,rfl,_,rfl,d⟩
  | 8,_=>exact⟨rfl,rfl,rfl,_,rfl,d⟩
  | 9,_=>exact⟨rfl,rfl,rfl,_,rfl,d⟩
  | 10,_=>exact⟨rfl,rfl,rfl,_,rfl,d⟩
  | 11,_=>exact⟨rfl,rfl,rfl,_,rfl,d⟩
  | 12,_=>exact⟨rfl,rfl,rfl,_,rfl,d⟩
  | 13,_=>exact⟨rfl,rfl,rfl,_,rfl,d⟩
  | 14,_=>exact⟨rfl,rfl,rfl,_,rfl,d⟩
  | 15,_=>exact⟨rfl,rfl,rfl,_,rfl,d⟩
  | a+16,n=>omega
end
theorem Mg[bn:Ib]{base:Nat}{w:AC}{b:Nat}{pv:AM}{p rest:List UInt8}{at_ n:Nat}(h:DIn base w b pv p at_ (numB n++rest))(i:n<2305843009213693952) :
  DJ Tryz.prog 177 #[.pointer (AF ⟨b,0,AI⟩)] w λe w'=>e=.returned (.int .u64 n)/\DIn base w' b pv p (at_+(numB n).length) rest/\Xy (·=b) w w':=by
 have d:=Mq h (by omega);have j:((2305843009213693952:Int)<=(n:Int))=False:=eq_false (by omega);clear h i;go_enter Tryz.func177,Tryz.ntmps177;go_wp2_with(go_at_call 180;refine d.mono ?_;rintro e m ⟨rfl,g,k⟩);go_ret;exact⟨rfl,g,k⟩
theorem Ee[bn:Ib]{base:Nat}{w:AC}{b:Nat}{pv:AM}{p rest:List UInt8}{at_ a:Nat}(h:DIn base w b pv p at_ (numB a++rest))(i:a<16) :
  DJ Tryz.prog 179 #[.pointer (AF ⟨b,0,AI⟩)] w λe w'=>e=.returned (.int .i64 a)/\DIn base w' b pv p (at_+(numB a).length) rest/\Xy (·=b) w w':=by
 have d:=Mq h (by omega);have j:¬(15:Int)<(a:Int):=by omega
 have m:IntKind.i64.wrap (a:Int)=(a:Int):=by rw[PO];omega
 clear h i;go_enter Tryz.func179,Tryz.ntmps179;go_wp2_with(go_at_call 180;refine d.mono ?_;rintro e n ⟨rfl,g,k⟩);go_ret;exact⟨rfl,g,k⟩
theorem Hj.keep_in[bn:Ib]{base:Nat}{w w':AC}{cs:Array AM}{inc k c:Nat}{now:List (Nat×Xn)}{recs:List Hk}{m:Array AM}{t:DW}(h:Hj base w cs inc now recs k)(j:Xy (·=c) w w')(i:w.heap[c]?=AF (.cells m t (0,0)))(F:base<=c)(E:t≠5)(d:t≠27)(H:175≠t):Hj base w' cs inc now recs k:=by obtain⟨lv,C,D⟩:=h.recs;refine⟨h.size,h.one,h.len,h.inc,λa g G=>?_,lv,C,Us.block D i F E H j⟩;obtain⟨n,q,z,v,A,B⟩:=h.ags a g G;exact⟨n,q,z,v,A,B.block i d j⟩
theorem Ae[bn:Ib]{A B:Nat}(j:Xy No w W)(h:Hj base W cs inc now recs k)(g:W.heap[A]?=AF (.cells cs 168 (0,0)))(d:W.heap[B]?=AF (.cells n 168 (0,0)))(m:w.heap.size<=B)(i:base<=B) :
  (W.setRow B cs).heap[B]?=AF (.cells cs 168 (0,0))/\Hj base (W.setRow B cs) cs inc now recs k/\Xy No w (W.setRow B cs) :=
 ⟨setRow_heap W B _ cs _ _ d,h.keep (Zi W B cs) (λx e=>by have e:x=B:=e;subst e;exact⟨i,_,d⟩),j.absorb (Zi W B cs) (λx e=>by have e:x=B:=e;omega)⟩
theorem Ly[bn:Ib]{base:Nat}{w:AC}{cs:Array AM}{inc k:Nat}{now:List (Nat×Xn)}{recs:List Hk}{g:Option Addr}{d:Nat}{p:List UInt8}(h:Hj base w cs inc now recs k)(m:Qv base w (.slice g p.length d) p)(n:base<=w.heap.size)(j:p.length<=1099511627776) :
  ∃W,W=((w.alloc (.cells cs 168)).alloc (.cells Tryz.zeroCells168 168)).alloc (.cells #[.slice g p.length d,.int .i64 0,.int .i64 0] 287)/\Xy No w W/\W.heap.size=w.heap.size+1+1+1/\W.heap[w.heap.size]?=AF (.cells cs 168 (0,0)) /\
   W.heap[w.heap.size+1]?=AF (.cells Tryz.zeroCells168 168 (0,0))/\DIn base W (w.heap.size+1+1) (.slice g p.length d) p 0 p/\Hj base W cs inc now recs k:=by
 have i:Xy No w (((w.alloc (.cells cs 168)).alloc (.cells Tryz.zeroCells168 168)).alloc (.cells #[.slice g p.length d,.int .i64 0,.int .i64 0] 287)):=(((Xy.refl _ _).alloc _).alloc _).alloc _;refine⟨_,rfl,i,by simp,(((Xy.refl No _).alloc _).alloc _).heap (Qy w _) id,?_,⟨?_,m.no i,Nat.zero_le _,rfl,by omega,j⟩,h.no i⟩
 ·have:=Qy (w.alloc (.cells cs 168)) (.cells Tryz.zeroCells168 168);rw[FE]at this;exact((Xy.refl No _).alloc _).heap this id
 ·have:=Qy ((w.alloc (.cells cs 168)).alloc (.cells Tryz.zeroCells168 168)) (.cells #[.slice g p.length d,.int .i64 0,.int .i64 0] 287);rw[FE,FE]at this;exact this
theorem K7[bn:Ib](h:Hj base w cs inc now recs k)(hp:Qv base w pv (Ji.inc n).bytes)(hi:inc<n)(hn:n<2305843009213693952)(hb:base<=w.heap.size) :
  DJ Tryz.prog 127 #[.agg cs,pv] w λe w'=>∃M,e=.returned (.tuple #[.agg M,.bool true])/\Hj base w' M n now recs k/\Xy No w w':=by
 obtain⟨po,pc,rfl⟩:=hp.form;have G:=BX (A5 h hp hi hn hb);clear h hp hi hn hb;go_enter Tryz.func127,Tryz.ntmps127;obtain⟨W,hW,kW,aF,hA,hB,hD,hS⟩:=Ly G.out.1 G.out.2.1 G.out.re (by have:=Qp (n:=n) (by have:=G.out.qd;omega);simp[Ji.bytes];omega);obtain⟨A,m⟩:∃A,A=w.heap.size:=⟨_,rfl⟩;obtain⟨B,D⟩:∃B,B=w.heap.size+1:=⟨_,rfl⟩;obtain⟨C,E⟩:∃C,C=w.heap.size+1+1:=⟨_,rfl⟩;rw[<- m]at hA;rw[<- D]at hB;rw[<- E]at hD;have V:=Mp hD;obtain⟨pl,aG⟩:∃pl,pl=(Ji.inc n).bytes.length:=⟨_,rfl⟩;have aA:¬A=C:=by omega
 have aC:¬B=C:=by omega
 have aB:¬B=A:=by omega
 have z:=BX (A8 kW hA hB hS m D E hD);have aE:base<=A:=by rw[m];exact G.out.re
 go_upto_region 2 with fail;rw[<- hW];rw[<- E,<- D,<- m];clear hW kW hA hB hD hS aF E D m;go_upto_region 3 with(go_at_call 176;refine V.mono ?_;rintro e w1 ⟨rfl,R,k1⟩);clear V;have Y:=Mg (rest:=[]) (n:=n) (by rw[B5];exact R) G.out.qd;have H1:=BX k1;clear R k1;go_upto_region 5 with(go_at_call 177;refine Y.mono ?_;rintro e w2 ⟨rfl,S,k2⟩);clear Y;have aD:=Lu S;have q:=H1.out.trans k2 (λ_ _ e=>e);have N:=q.heap z.out.2.1 aA;have O:=q.heap z.out.qc aC;have T:Hj base w2 cs inc now recs k:=z.out.2.2.2.1.keep_in q z.out.2.2.2.2.2.2.2.blk z.out.2.2.2.2.2.2.2.bb (by decide) (by decide) (by decide);have L:=BX (A4 q N O T);clear S k2 q N O T;have q1:(inc:Int)<(n:Int):=by have:=G.out.qc;omega
 go_upto_region 6 with(go_at_call 178;refine aD.mono ?_;rintro e w3 ⟨rfl,Z⟩;have j:=Z.heap L.out.2.1 id;have a0:=Qq j 0;rw[L.out.2.2.2.inc]at a0;have fA:=Qg j;unfold Mh at a0);have U:=L.out.2.2.2.no Z;have P:=Z.heap L.out.qc id;have k4:Xy (·=A) w3 (w3.setCell ⟨A,0,AI⟩ (.int .u64 n)):=Qd _ _;have I:=Qz (i:=0) (u:=.int .u64 n) j;have g:=(U.keep k4 (λx e=>by have e:x=A:=e;subst e;exact⟨aE,_,j⟩)).setInc n;have J:=k4.heap P aB;have X:Xy No w (w3.setCell ⟨A,0,AI⟩ (.int .u64 n)):=((z.out.1.absorb L.out.1 (λx e=>by have e:x=C:=e;have:=z.out.qg;omega)).then Z).absorb k4 (λx e=>by have e:x=A:=e;have:=z.out.qe;omega);have K:=Ae X g I J (by have:=z.out.qf;omega) (by have:=z.out.qf;have:=G.out.re;omega);obtain⟨W4,F⟩:∃W4,W4=w3.setCell ⟨A,0,AI⟩ (.int .u64 n):=⟨_,rfl⟩;obtain⟨d,H⟩:∃d,d=cs.setIfInBounds 0 (.int .u64 n):=⟨_,rfl⟩;rw[<- F,<- H]at I g K;rw[<- F]at J;have HX:=BX K;clear U P k4 K j Z X;go_upto_region 7 with fail;rw[<- F];clear F H fA a0;go_wp2_with(first|(refine PC rfl 168 _ rfl A rfl 168 d (0,0) _ I Tryz.underlying168 rfl g.info ?_)|(refine PE rfl 168 _ _ rfl B d rfl rfl 168 _ J g.info (by rw[g.size];rfl) g.all ?_));refine FC (v:=.tuple #[.agg d,.bool true]) (Jl rfl _ _ B 168 d (0,0) _ _ rfl rfl HX.out.1 Tryz.underlying168 rfl g.info) rfl ⟨d,rfl,HX.out.2.1,HX.out.2.2⟩
theorem XF[bn:Ib](h:Hj base w cs inc now recs k)(hp:Qv base w pv (Ji.floor a n).bytes)(ha:a<16)(hg:now[a]?=AF (fl,wn))(hi:fl<n)(hn:n<2305843009213693952)(hb:base<=w.heap.size) :
  DJ Tryz.prog 127 #[.agg cs,pv] w λe w'=>∃N,e=.returned (.tuple #[.agg N,.bool true])/\Hj base w' N inc (now.modify a (λx=>(n,x.2))) recs k/\Xy No w w':=by
 obtain⟨po,pc,rfl⟩:=hp.form;have j:=BX (A7 h hp hi hn hb ha hg);clear h hp hi hn hb ha hg;go_enter Tryz.func127,Tryz.ntmps127;obtain⟨W,hW,kW,aF,hA,hB,hD,hS⟩:=Ly j.out.1 j.out.2.1 j.out.qe (by have:=Qp (n:=a) (by have:=j.out.qf;omega);have:=Qp (n:=n) (by have:=j.out.qd;omega);simp[Ji.bytes];omega);obtain⟨A,q⟩:∃A,A=w.heap.size:=⟨_,rfl⟩;obtain⟨B,F⟩:∃B,B=w.heap.size+1:=⟨_,rfl⟩;obtain⟨C,G⟩:∃C,C=w.heap.size+1+1:=⟨_,rfl⟩;rw[<- q]at hA;rw[<- F]at hB;rw[<- G]at hD;have V:=Mp hD;obtain⟨pl,aG⟩:∃pl,pl=(Ji.floor a n).bytes.length:=⟨_,rfl⟩;have aA:¬A=C:=by omega
 have aC:¬B=C:=by omega
 have aB:¬B=A:=by omega
 have E:=BX (A8 kW hA hB hS q F G hD);have aE:base<=A:=by rw[q];exact j.out.qe
 go_upto_region 2 with fail;rw[<- hW];rw[<- G,<- F,<- q];clear hW kW hA hB hD hS aF G F q;go_upto_region 3 with(go_at_call 176;refine V.mono ?_;rintro e w1 ⟨rfl,S,k1⟩);clear V;have Z:=Ee (rest:=numB n) (a:=a) S j.out.qf;have H1:=BX k1;clear S k1;go_upto_region 10 with(go_at_call 179;refine Z.mono ?_;rintro e w2 ⟨rfl,z,k2⟩);clear Z;have Y:=Mg (rest:=[]) (n:=n) (by rw[B5];exact z) j.out.qd;have H1:=BX (H1.out.trans k2 (λ_ _ e=>e));clear z k2;go_upto_region 11 with(go_at_call 177;refine Y.mono ?_;rintro e w2 ⟨rfl,z,k2⟩);clear Y;have aD:=Lu z;have D:=H1.out.trans k2 (λ_ _ e=>e);have O:=D.heap E.out.2.1 aA;have P:=D.heap E.out.qc aC;have T:Hj base w2 cs inc now recs k:=E.out.2.2.2.1.keep_in D E.out.2.2.2.2.2.2.2.blk E.out.2.2.2.2.2.2.2.bb (by decide) (by decide) (by decide);have M:=BX (A4 D O P T);clear z k2 D O P T;have q1:(fl:Int)<(n:Int):=by have:=j.out.qc;omega
 have q2:(a:Int)<16:=by have:=j.out.qf;omega
 go_upto_region 12 with(go_at_call 178;refine aD.mono ?_;rintro e w3 ⟨rfl,k3⟩;have m:=k3.heap M.out.2.1 id;have a0:=Qq m (1+a);rw[(M.out.2.2.2.ags a _ j.out.rg).1]at a0;have fA:=Qg m;unfold Mh at a0);have U:=M.out.2.2.2.no k3;have R:=k3.heap M.out.qc id;have k4:Xy (·=A) w3 (w3.setCell ⟨A,1+a,AI⟩ (.int .u64 n)):=Qd _ _;have J:=Qz (i:=1+a) (u:=.int .u64 n) m;have g:=(U.keep k4 (λx e=>by have e:x=A:=e;subst e;exact⟨aE,_,m⟩)).setFloor (a:=a) (n:=n) j.out.qf;have K:=k4.heap R aB;have X:Xy No w (w3.setCell ⟨A,1+a,AI⟩ (.int .u64 n)):=((E.out.1.absorb M.out.1 (λx e=>by have e:x=C:=e;have:=E.out.qg;omega)).then k3).absorb k4 (λx e=>by have e:x=A:=e;have:=E.out.qe;omega);have L:=Ae X g J K (by have:=E.out.qf;omega) (by have:=E.out.qf;have:=j.out.qe;omega);obtain⟨W4,H⟩:∃W4,W4=w3.setCell ⟨A,1+a,AI⟩ (.int .u64 n):=⟨_,rfl⟩;obtain⟨d,I⟩:∃d,d=cs.setIfInBounds (1+a) (.int .u64 n):=⟨_,rfl⟩;rw[<- H,<- I]at J g L;rw[<- H]at K;have HX:=BX L;clear U R k4 L m k3 X;go_upto_region 13 with fail;rw[<- H];clear H I fA a0;go_wp2_with(first|(refine PC rfl 168 _ rfl A rfl 168 d (0,0) _ J Tryz.underlying168 rfl g.info ?_)|(refine PE rfl 168 _ _ rfl B d rfl rfl 168 _ K g.info (by rw[g.size];rfl) g.all ?_));refine FC (v:=.tuple #[.agg d,.bool true]) (Jl rfl _ _ B 168 d (0,0) _ _ rfl rfl HX.out.1 Tryz.underlying168 rfl g.info) rfl ⟨d,rfl,HX.out.2.1,HX.out.2.2⟩
end Go.Proofs.YtfdmbomlkpkegaaGreat
