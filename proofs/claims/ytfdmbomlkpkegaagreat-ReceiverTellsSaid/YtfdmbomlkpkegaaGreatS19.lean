/- Lemmas. -/
import Derived.Test.YtfdmbomlkpkegaaGreatS18
import Derived.Test.YtfdmbomlkpkegaaGreatS13
set_option maxRecDepth 100000
set_option maxHeartbeats 8000000
set_option linter.all false
set_option autoImplicit true
set_option relaxedAutoImplicit true
open Go renaming Value->AM,World->AC,bodyPost_ret->FC,results->FD
open Go.IntWalk renaming i64_in->EM
open Go.Lib renaming hid->BX
open Go.Value renaming ownBlock->DK,slice->DN
open Go.World renaming ownsRow_nil->FI
open List renaming append_assoc->B7,drop_drop->O0,drop_left'->LY,drop_take->LX,length_append->BO,length_take->E9,take_append_drop->FM,take_append_of_le_length->E2,take_of_length_le->DU
open Nat renaming le_refl->BE,le_succ->O1,le_trans->BF
open Option renaming none->AI,some->AF
namespace Go.Proofs.YtfdmbomlkpkegaaGreat
open Go Go.RowKit Go.Dr
def Yo (s:Jh)(lv:AM):List AM :=
 [.int .u64 s.n,.bool s.headed,.int .u64 (if s.headed then(s.first:Int)else 0),lv,.bool (s.headed && !s.tail.isEmpty),.int .i64 s.bytes.length]
def Sv [bn:Ib](base:Nat)(w:AC)(s:Jh)(e:Ending)(d:AC):Prop :=
 ∃lv,e=.returned (.tuple #[.agg (Yo s lv).toArray,.int .i64 0])/\Zp base d lv s.recs/\(∀b,lv.ownBlock=AF b->w.heap.size<=b)/\Xy No w d
theorem R5[bn:Ib](j:Qv base w pv s.bytes)(o:s.Ok)(g:s.headed=false) :
  Calls Tryz.prog 175 #[.int .u64 s.n,pv] w (Sv base w s):=by
 obtain⟨p,B⟩:=o.bare g;have f:s.bytes=s.tail:=by unfold Jh.bytes;rw[g];rfl
 have k:∀lv,Yo s lv=[.int .u64 s.n,.bool false,.int .u64 0,lv,.bool false,.int .i64 s.tail.length]:=λlv=>by unfold Yo;rw[g,f];rfl
 unfold Sv;simp only[k,p];rw[f]at j;obtain⟨ao,cap,rfl⟩:=j.form;have A:(s.tail.length:Int)<12:=by omega
 have d:∀q,Zp base q (.slice AI 0 0) []:=λq=>⟨[],rfl,λi u b h=>by simp at h,FI _ _ _ _⟩;have z:=BX d;clear f k p B o g j d;generalize s.tail.length=m at *;go_enter Tryz.func175,Tryz.ntmps175;go_wp2;refine FC (v:=.tuple #[.agg #[.int .u64 s.n,.bool false,.int .u64 0,.slice AI 0 0,.bool false,.int .i64 m],.int .i64 0]) (by simp[FD,Tryz.results175,go_sem]) rfl ⟨_,rfl,z.out _,by simp[DK],((Xy.refl _ _).alloc _).alloc _⟩
def MO [bn:Ib](base:Nat)(w:AC)(s:Jh)(n:Nat)(d:AM)(wr:AC):Prop :=
 ∃(j:Nat) (lv:AM),j<=s.recs.length/\d=.int .i64 ((12+(Xx (s.recs.take j)).length:Nat):Int) /\
  wr.heap[w.heap.size+1]?=AF (.cells #[.int .u64 s.n,.bool true,.int .u64 s.first,lv,.bool false,.int .i64 n] 282 (0,0)) /\
  wr.heap[w.heap.size]?=AF (.cells #[.int .u64 0,.bool false,.int .u64 0,.slice AI 0 0,.bool false,.int .i64 0] 282 (0,0)) /\
  Zp base wr lv (s.recs.take j)/\(∀b,lv.ownBlock=AF b->w.heap.size+2<=b)/\Xy No w wr
theorem Pb[bn:Ib](z:o.guard=AI)(s x:Operand)(C:o.op=.call {callee:=.builtin .append,args:=#[s,x],argTypes:=#[128,128]})(h:Zp base w v rs)(D:a.eval s=v)(n:w.heap[B]?=AF (.cells #[u] 59 (0,0)))(F:a.eval x=.slice (AF ⟨B,0,AI⟩) 1 1)(E:Qv base w u b)(A:rs.length<=1099511627776)(q:base<=w.heap.size)(p:∀f g,Zp base g f (rs++[b])->Xy (λb=>v.ownBlock=AF b) w g->(∀b,f.ownBlock=AF b->v.ownBlock=AF b\/w.heap.size<=b)->wpList Tryz.prog d Q rest (a.put o.dst f) g):wpList Tryz.prog d Q (o::rest) a w :=
 wpList_plain z λ_ i=>Ff s x C h D n F E A q λf g j k m=>i _ _ (p f g j k m)
theorem NJ{wr:AC}{A:Nat}{q w z B C D:AM}{t:TypeId}(E:wr.heap[A]?=AF (.cells #[q,w,z,B,C,D] t (0,0)))(f g h j m n:AM) :
  ((((((wr.setCell ⟨A,0,AI⟩ f).setCell ⟨A,1,AI⟩ g).setCell ⟨A,2,AI⟩ h).setCell ⟨A,3,AI⟩ j).setCell ⟨A,4,AI⟩ m).setCell ⟨A,5,AI⟩ n).heap[A]?=AF (.cells #[f,g,h,j,m,n] t (0,0)) /\
  Xy (·=A) wr ((((((wr.setCell ⟨A,0,AI⟩ f).setCell ⟨A,1,AI⟩ g).setCell ⟨A,2,AI⟩ h).setCell ⟨A,3,AI⟩ j).setCell ⟨A,4,AI⟩ m).setCell ⟨A,5,AI⟩ n):=by
 have d:∀{o:AC} (k:Xy (·=A) wr o) (i:Nat) (u:AM),Xy (·=A) wr (o.setCell ⟨A,i,AI⟩ u):=λk i u=>Xy.setCell (F:=(·=A)) k (p:=⟨A,i,AI⟩) (.inl rfl) u;refine⟨?_,d (d (d (d (d (d (Xy.refl _ _) _ _) _ _) _ _) _ _) _ _) _ _⟩;exact Qz (i:=5) (u:=n) (Qz (i:=4) (u:=m) (Qz (i:=3) (u:=j) (Qz (i:=2) (u:=h) (Qz (i:=1) (u:=g) (Qz (i:=0) (u:=f) E)))))
theorem UY[bn:Ib](d:wr.heap[A]?=AF (.cells #[p,q,z,B,C,D] t (0,0)))(f:w.heap.size<=A)(J:Zp base wr lv rs)(K:t=282)(H:base<=w.heap.size)(o:∀b,lv.ownBlock=AF b->w.heap.size+2<=b )(F:A<w.heap.size+2)(I:Xy No w wr)(G:W=((((((wr.setCell ⟨A,0,AI⟩ (.int .u64 n)).setCell ⟨A,1,AI⟩ (.bool g)).setCell ⟨A,2,AI⟩ (.int .u64 first)).setCell ⟨A,3,AI⟩ lv).setCell ⟨A,4,AI⟩ (.bool h)).setCell ⟨A,5,AI⟩ (.int .i64 m))) :
  W.heap[A]?=AF (.cells #[.int .u64 n,.bool g,.int .u64 first,lv,.bool h,.int .i64 m] t (0,0))/\Zp base W lv rs/\(∀b,lv.ownBlock=AF b->w.heap.size<=b)/\Xy No w W:=by
 obtain⟨j,k⟩:=NJ d (.int .u64 n) (.bool g) (.int .u64 first) lv (.bool h) (.int .i64 m);rw[<- G]at j k;have hF:Uz base wr (·=A):=by rintro b rfl;exact⟨BF H f,Qt d,λcs fr e=>by rw[d]at e;simp at e;rw[K]at e;simp at e⟩
 exact⟨j,J.keep hF k (λb E i=>by have:=o b E;have i:b=A:=i;omega),λb e=>by have:=o b e;omega,I.absorb k (λb e=>by have e:b=A:=e;omega)⟩
theorem Ol{l q:Qs}(h:l.drop a=q)(k:Nat)(b:Nat)(d:b=a+k):(l.take b).drop a=q.take k:=by subst d;rw[LX,Nat.add_sub_cancel_left,h]
theorem MX{l q:Qs}(h:l.drop a=q)(k j:Nat)(b c:Nat)(d:b=a+k)(f:c=a+j):(l.take b).drop c=(q.take k).drop j:=by subst d f;rw[<- h,LX,LX,O0];congr 1;omega
theorem R6[bn:Ib](hp:Qv base w pv s.bytes)(ho:s.Ok)(hd:s.headed=true)(hb:base<=w.heap.size)(hT:ban.top<=w.heap.size)(aB:s.recs.length<=1000000)(hz:s.bytes.length<=1099511627776) :
  Calls Tryz.prog 175 #[.int .u64 s.n,pv] w (Sv base w s):=by
 obtain⟨bA,bB,hr,ht⟩:=ho.head hd;have aA:s.bytes=Xt s.first++(Xx s.recs++s.tail):=by unfold Jh.bytes;rw[hd];rfl
 have hc:∀lv,Yo s lv=[.int .u64 s.n,.bool true,.int .u64 s.first,lv,.bool (!s.tail.isEmpty),.int .i64 s.bytes.length]:=λlv=>by unfold Yo;rw[hd];simp
 unfold Sv;simp only[hc];have aN:=hp;obtain⟨po,pc,rfl⟩:=hp.form;have bI:s.bytes.length<=pc:=by obtain⟨_,_,hq,h1,h2,_⟩:=aN;simp at hq;omega
 have an:12<=s.bytes.length:=by rw[aA,BO,Zr];omega
 have bh:=aN.take 12 an;have eh:s.bytes.take 12=Xt s.first:=by rw[aA,E2 (by rw[Zr];exact BE _),DU (by rw[Zr];exact BE _)]
 rw[eh]at bh;have P:∀j,s.bytes.drop (12+(Xx (s.recs.take j)).length)=Xx (s.recs.drop j)++s.tail:=λj=>by
  rw[aA,<- O0,LY (Zr _)]
  conv=>lhs;rw[<- FM j s.recs,Kn,B7]
  rw[FM,LY rfl]
 have ag:Xy No w ((w.alloc (.cells #[.int .u64 0,.bool false,.int .u64 0,.slice AI 0 0,.bool false,.int .i64 0] 282)).alloc (.cells #[.int .u64 s.n,.bool false,.int .u64 0,.slice AI 0 0,.bool false,.int .i64 s.bytes.length] 282)):=((Xy.refl _ _).alloc _).alloc _;have bH:=JA (bh.no ag) (BF hT ag.size) (by rw[Zu];decide);have bX:¬((s.bytes.length:Int)<12):=by omega
 have bY:(12:Int)<=(pc:Int):=by omega
 have o:=P;have aP:(s.tail.length:Nat)<=s.bytes.length:=by rw[aA];simp;omega
 have z:12+(Xx s.recs).length+s.tail.length=s.bytes.length:=by rw[aA,BO,Zr,BO];omega
 have E:=BX (A10 hb hT aB hr ht P z aN bI ag);have HF:=BX (A3 bA bB hz);clear P o aP z hr ht hb hT aB aA hc hp aN bI an bh eh ho hd bA bB hz;generalize hm:s.bytes.length=m at *;have HM:=BX hm;clear hm;generalize aO:(!s.tail.isEmpty)=tb;have al:=BX aO;clear aO;go_enter Tryz.func175,Tryz.ntmps175;go_upto_region 7 with(go_at_call 205;refine bH.mono ?_;rintro e w2 ⟨v2,rfl,aX,k2⟩);have d:=k2.heap (((Xy.refl No _).alloc (.cells #[.int .u64 s.n,.bool false,.int .u64 0,.slice AI 0 0,.bool false,.int .i64 m] 282)).heap (Qy w (.cells #[.int .u64 0,.bool false,.int .u64 0,.slice AI 0 0,.bool false,.int .i64 0] 282)) id) id;have f:=k2.heap (Qy (w.alloc (.cells #[.int .u64 0,.bool false,.int .u64 0,.slice AI 0 0,.bool false,.int .i64 0] 282)) (.cells #[.int .u64 s.n,.bool false,.int .u64 0,.slice AI 0 0,.bool false,.int .i64 m] 282)) id;simp only[World.size_alloc]at f;have aF:(layB s.first 8).length=8:=Zu _ _;have tk:=Cl (aX.bytes (base:=base) (λ_=>BF E.out.2.1 E.out.2.2.2.2.2.2.2.2.2.size)) (by rw[aF];decide);rw[Uf,Nat.mod_eq_of_lt (by have:=HF.out.2.1;omega)]at tk;have e1:=Qq f 1;have f1:=Qg f 1;have e2:=Qq f 2;have f2:=Qg f 2;have bE:=E.out.2.2.2.2.2.2.2.2.2.then k2;have aD:=Qz (i:=2) (u:=.int .u64 s.first) (Qz (i:=1) (u:=.bool true) f);have k3:Xy (·=w.heap.size+1) w2 ((w2.setCell ⟨w.heap.size+1,1,AI⟩ (.bool true)).setCell ⟨w.heap.size+1,2,AI⟩ (.int .u64 s.first)) :=
  Xy.setCell (F:=(·=w.heap.size+1)) (Xy.setCell (F:=(·=w.heap.size+1)) (Xy.refl _ _) (p:=⟨w.heap.size+1,1,AI⟩) (.inl rfl) _) (p:=⟨w.heap.size+1,2,AI⟩) (.inl rfl) _
 have aC:=k3.heap d (λe=>by have e:w.heap.size=w.heap.size+1:=e;omega);have aE:=bE.absorb k3 (λb e=>by rw[e];exact O1 _);have H3:=BX (A3 aD aC aE);clear aD aC aE k3 d f aF aX bH bE;simp at e1 e2;go_upto_block 0 with(go_at_call 206;refine tk.mono ?_;rintro e w3 ⟨rfl,rfl⟩);obtain⟨aD,aC,aE⟩:=H3.out;generalize ((w3.setCell ⟨w.heap.size+1,1,AI⟩ (.bool true)).setCell ⟨w.heap.size+1,2,AI⟩ (.int .u64 s.first))=w4 at *;have U:MO base w s m (.int .i64 12) w4:=⟨0,.slice AI 0 0,Nat.zero_le _,rfl,aD,aC,⟨[],rfl,λi u b h=>by simp at h,FI _ _ _ _⟩,by simp[DK],aE⟩;clear aD aC aE H3 e1 f1 e2 f2 tk;go_wp2_with fail;go_loopw [9] (λav wr=>MO base w s m av wr) (λav _=>(m:Nat)-(intOf av).toNat);case atStart=>exact U
 case round =>
  clear U;obtain⟨j,lv,hj,rfl,q,g,O,Z,N⟩:=hrel;have L:=E.out.2.2.2.2.2.2.2.1.no N;have o:=E.out.qf j;by_cases J:j<s.recs.length
  ·have bJ:s.recs[j]?=AF s.recs[j]:=List.getElem?_eq_getElem J;have aB:=E.out.qd _ (List.getElem_mem J);have az:s.recs.drop j=s.recs[j]::s.recs.drop (j+1):=List.drop_eq_getElem_cons J;have ah:s.recs.take (j+1)=s.recs.take j++[s.recs[j]]:=by rw[List.take_add_one,bJ];rfl
   generalize s.recs[j]=r at *;rw[az,Lr,B7]at o;obtain⟨q1,q2,q3,q4,q5,q6⟩:=Ww r (Xx (s.recs.drop (j+1))++s.tail) aB;have q7:(recB r++(Xx (s.recs.drop (j+1))++s.tail)).take (8+r.length)=recB r:=by rw[E2 (by rw[Zl];omega),DU (by rw[Zl];omega)]
   have R:12+(Xx (s.recs.take (j+1))).length=12+(Xx (s.recs.take j)).length+8+r.length:=by
    rw[ah,Kn,BO];have:Xx [r]=recB r:=by simp[Xx]
    rw[this,Zl];omega
   obtain⟨a,ha⟩:∃a,a=12+(Xx (s.recs.take j)).length:=⟨_,rfl⟩;rw[<- ha]at o R⊢;have bG:s.bytes.length-a=(recB r++(Xx (s.recs.drop (j+1))++s.tail)).length:=by rw[<- o,List.length_drop]
   generalize recB r++(Xx (s.recs.drop (j+1))++s.tail)=l1 at *;have hm:=HM.out;have aM:a+8+r.length<=m:=by omega
   have A:=E.out.qi;obtain⟨o1,c1,V,M⟩:=Ub po m pc a (a+4) (a:Int) ((a:Int)+4) rfl (by omega) (by omega) (by omega) A;have X:=M _ _ _ L;rw[Ol o 4 _ rfl]at X;have T:=Cl X (by rw[E9];omega);rw[q2]at T;obtain⟨o2,c2,aZ,ac⟩:=Ub po m pc (a+8) (a+8+r.length) ((a:Int)+8) ((a:Int)+8+(r.length:Int)) (by omega) (by omega) (by omega) aM A;have bq:=ac _ _ _ L;rw[MX o (8+r.length) 8 _ _ (by omega) rfl,q5]at bq;obtain⟨o3,c3,ab,ad⟩:=Ub po m pc a (a+8+r.length) (a:Int) ((a:Int)+8+(r.length:Int)) (by omega) (by omega) (by omega) aM A;have bw:=ad _ _ _ L;rw[Ol o (8+r.length) _ (by omega),q7]at bw;rw[show a+4-a=4 by omega]at V T;rw[show a+8+r.length-(a+8)=r.length by omega]at aZ bq;rw[show a+8+r.length-a=8+r.length by omega]at ab bw;have Q:=λ(w':AC) (k:Xy No wr w')=>Xv (X5 (bq.no k)) (by simp;omega);have bC:[r].flatten=r:=by simp
   rw[bC]at Q;clear bC;have aJ:=HF.out.2.2;have bD:(a:Int)<(m:Int):=by omega
   have bQ:(m:Int)<=1099511627776:=by omega
   have bK:(m:Int)-(a:Int)=(l1.length:Int):=by omega
   have bZ:¬((l1.length:Int)<8):=by omega
   have bb:¬((1048576:Int)<(r.length:Int)):=by omega
   have bc:(r.length:Int)<=1099511627776:=by omega
   have bd:¬((l1.length:Int)-8<(r.length:Int)):=by omega
   have be:(8:Int)<=(l1.length:Int):=by omega
   have bf:(l1.length:Int)<=1099511627776:=by omega
   have aV:(s.recs.take j).length<=1099511627776:=by have:=E.out.qc;rw[E9];omega
   generalize s.recs.take j=rj at *;have bN:=BX aV;clear aV;have HJ:=BX (A6 Q bw bq R ah J);have D:=BX (A6 q g O Z N aB);have HA:=BX (A3 ha aM hm);clear Q bw bq R ah q g O Z N ha aM hm aJ A M ac ad X q1 q2 q3 q4 q5 q6 q7 bG az bJ aB o L J hj;generalize l1.length=m1 at *;go_upto_region 19 with(go_at_call 206;refine T.mono ?_;rintro e w5 ⟨rfl,rfl⟩);go_upto_region 20 with(go_at_call 97;refine(HJ.out.1 _ (Xy.refl _ _)).mono ?_;rintro e w6 ⟨v6,rfl,aL,bM⟩;have k6:=((Xy.refl No w5).alloc _).then bM);have b6:=aL.bytes (base:=base) (λ_=>BF E.out.2.1 (BF D.out.2.2.2.2.1.size (by simp)));obtain⟨o6,c6,rfl⟩:=aL.form;have aU:=λ(w':AC) (k:Xy No w6 w')=>Pg (b6.no k) (BF E.out.2.1 ((D.out.2.2.2.2.1.then k6).then k).size) (BF D.out.rf (by decide));have H6:=BX (A2 b6 aU);clear b6 aU aL bM;have bL:IntKind.i64.wrap ((a:Int)+8)=(a:Int)+8:=EM _ (by omega);have bV:IntKind.i64.wrap (r.length:Int)=(r.length:Int):=EM _ (by omega);have bW:IntKind.i64.wrap ((a:Int)+8+(r.length:Int))=(a:Int)+8+(r.length:Int):=EM _ (by omega);refine Ql (λw'=>Xy No w6 w') [0,1,2,3,4,5,6,7,8] [9,10] [11] (by kernel_rfl) (by kernel_rfl) (λ_ _ _ _ _ h=>h) (Xy.refl _ _).drew ?_;have kd:Xy No w6 w6.drew:=(Xy.refl _ _).drew;iterate 9(refine Qk (v:=?_) rfl rfl rfl ?_ ?_;rotate_left;focus(
    intro w' hq;go_simp
    try with_reducible rfl))
   refine Qj ?_;refine Qx rfl rfl (λK hK=>?_);go_simp;refine(H6.out.2 _ kd).mono ?_;rintro e w7⟨v7,rfl,aY,k7⟩;have b7:=aY.bytes (base:=base) (λ_=>BF E.out.2.1 ((D.out.2.2.2.2.1.then k6).then kd).size);have kd:=kd.then k7;refine hK _ _ kd ?_;clear hK K;refine Qx rfl rfl (λK hK=>?_);go_simp;refine(JL (HJ.out.2.1.no (k6.then kd)) b7).mono ?_;rintro e w8⟨he,k8⟩;rw[beq_self_eq_true]at he;subst he;have kd:=kd.then k8;refine hK _ _ kd ?_;clear hK K;refine Qh (Qu rfl (Qm ?_));have aK:=k6.then kd;have ae:=aK.heap D.out.1 id;have af:=D.out.2.2.1.keep (Uz.no _ _) aK (λ_ _ e=>e);have aw:=H6.out.1.no kd;have e3:=Qq ae 3;simp at e3;obtain⟨lo,lc,rfl,aG,aH⟩:=af.form;clear aY b7 k7 k8 kd bL bV bW V aZ ab T;have bR:¬(DN lo rj.length lc).ownBlock=AF (w.heap.size+1):=λe=>by have:=D.out.qd _ e;omega
   have kA:Xy No w8 (w8.alloc (.cells #[.slice o6 r.length c6] 59)):=(Xy.refl _ _).alloc _;have au:=af.keep (Uz.no _ _) kA (λ_ _ e=>e);have bP:=kA.heap ae id;have ay:=Qy w8 (.cells #[.slice o6 r.length c6] 59);have ax:=aw.no kA;have aW:=(D.out.2.2.2.2.1.then (aK.then kA)).size;have aF:=bN.out;have H8:=BX (A4 aK kA aW aF);have HL:=BX (A3 au ax ay);clear af aw aK kA aW aF au ax ay k6 aG aH ae;go_upto_region 23 with(at_builtin;refine Pb rfl _ _ rfl HL.out.1 rfl HL.out.2.2 rfl HL.out.2.1 H8.out.2.2.2 (BF E.out.1 H8.out.qc) ?_;intro v9 w9 ar k9 o9;obtain⟨aj,ai,ev,_,_⟩:=ar.form;rw[BO,List.length_singleton]at ev;subst ev;have Y:=k9.heap bP bR;have f9:=Qg Y 3;have e9:=Qq Y 3;simp at e9);have ap:Uz base w9 (·=w.heap.size+1):=by rintro b rfl;exact⟨BF E.out.1 (O1 _),Qt Y,λcs fr e=>by rw[Y]at e;simp at e⟩
   have aI:∀b,(DN aj (rj.length+1) ai).ownBlock=AF b->w.heap.size+2<=b:=λb hb=>by
    rcases o9 b hb with h|h
    ·exact D.out.qd b h
    ·have h1:=(D.out.2.2.2.2.1.then H8.out.1).size;have h2:=H8.out.2.1.size;have h3:=Qt D.out.1;have h4:=H8.out.1.size;omega
   have kS:Xy (·=w.heap.size+1) w9 (w9.setCell ⟨w.heap.size+1,3,AI⟩ (.slice aj (rj.length+1) ai)):=Xy.setCell (F:=(·=w.heap.size+1)) (Xy.refl _ _) (p:=⟨w.heap.size+1,3,AI⟩) (.inl rfl) _;have aR:=Qz (i:=3) (u:=.slice aj (rj.length+1) ai) Y;have aS:=ar.keep ap kS (λb hb e=>by have:=aI b hb;have e:b=w.heap.size+1:=e;omega);have ao:=k9.heap (H8.out.2.1.heap (H8.out.1.heap D.out.2.1 id) id) (λe=>by have:=D.out.qd _ e;omega);have aQ:=kS.heap ao (λe=>by have e:w.heap.size=w.heap.size+1:=e;omega);have bF:Xy No w w9:=(D.out.2.2.2.2.1.then (H8.out.1.then H8.out.2.1)).absorb k9 (λb e=>by have:=D.out.qd _ e;omega);have aT:=bF.absorb kS (λb e=>by rw[e];exact O1 _);have HZ:=BX (A5 aR aS aQ aT aI);clear ap kS aR aS ao aQ bF aT aI Y f9 e9;have bL:IntKind.i64.wrap (8+(r.length:Int))=8+(r.length:Int):=EM _ (by omega);go_wp2;go_roundw;case rel =>refine⟨j+1,_,HJ.out.rf,?_,HZ.out.1,HZ.out.qc,by rw[HJ.out.qe];exact HZ.out.2.1,HZ.out.re,HZ.out.qd⟩;rw[HJ.out.qd];go_num
   case measure =>have:=HA.out.2.1;simp[intOf];omega
  ·obtain rfl:j=s.recs.length:=by omega
   have hm:=HM.out;have z:=E.out.qg;have B:=E.out.qe;have aJ:=HF.out.2.2;have A:=E.out.qi;rw[List.take_length]at *;rw[List.drop_length]at o;have o:s.bytes.drop (12+(Xx s.recs).length)=s.tail:=o;obtain⟨a,ha⟩:∃a,a=12+(Xx s.recs).length:=⟨_,rfl⟩;rw[<- ha]at o z⊢;have bQ:(m:Int)<=1099511627776:=by omega
   obtain⟨lo,lc,rfl,aG,aH⟩:=O.form;have D:=BX (A3 O Z N);clear aG aH;by_cases S:s.tail=[]
   ·have bU:tb=false:=by rw[<- al.out,S];rfl
    subst bU;have bD:¬((a:Int)<(m:Int)):=by rw[S]at z;simp at z;omega
    have b0:=Qq q 0;have b1:=Qq q 1;have b2:=Qq q 2;have b3:=Qq q 3;have X:=Qq q 4;have b5:=Qq q 5;have a0:=Qq g 0;have a1:=Qq g 1;have a2:=Qq g 2;have a3:=Qq g 3;have a4:=Qq g 4;have a5:=Qq g 5;have f0:=Qg g 0;have f1:=Qg g 1;have f2:=Qg g 2;have f3:=Qg g 3;have f4:=Qg g 4;have f5:=Qg g 5;simp at b0 b1 b2 b3 X b5 a0 a1 a2 a3 a4 a5;have G:=BX (A2 g q);clear S aJ A B z hm o L ha J hj O Z N g q;go_wp2;obtain⟨C,z2,z3,z4⟩:=UY G.out.1 (BE _) D.out.1 rfl E.out.1 D.out.2.1 (by omega) D.out.2.2 rfl;refine FC (v:=.tuple #[.agg #[.int .u64 s.n,.bool true,.int .u64 s.first,.slice lo s.recs.length lc,.bool false,.int .i64 m],.int .i64 0]) ?_ rfl ⟨_,rfl,z2,z3,z4⟩;clear z2 z3 z4;have g0:=Qq C 0;have g1:=Qq C 1;have g2:=Qq C 2;have g3:=Qq C 3;have g4:=Qq C 4;have g5:=Qq C 5;clear C;generalize (((((wr.setCell ⟨w.heap.size,0,AI⟩ _).setCell ⟨w.heap.size,1,AI⟩ _).setCell ⟨w.heap.size,2,AI⟩ _).setCell ⟨w.heap.size,3,AI⟩ _).setCell ⟨w.heap.size,4,AI⟩ _).setCell ⟨w.heap.size,5,AI⟩ _=W at *;simp at g0 g1 g2 g3 g4 g5;simp[FD,Tryz.results175,go_sem,g0,g1,g2,g3,g4,g5]
   ·
    have aO:tb=true:=by rw[<- al.out];cases hq:s.tail with|nil=>exact absurd hq S|cons x t=>rfl
    subst aO;have aP:0<s.tail.length:=by cases hq:s.tail with|nil=>exact absurd hq S|cons x t=>simp
    have bD:(a:Int)<(m:Int):=by omega
    have bK:(m:Int)-(a:Int)=(s.tail.length:Int):=by omega
    have f:=Qz (i:=4) (u:=.bool true) q;have kT:Xy (·=w.heap.size+1) wr (wr.setCell ⟨w.heap.size+1,4,AI⟩ (.bool true)):=Xy.setCell (F:=(·=w.heap.size+1)) (Xy.refl _ _) (p:=⟨w.heap.size+1,4,AI⟩) (.inl rfl) _;have d:=kT.heap g (λe=>by have e:w.heap.size=w.heap.size+1:=e;omega);have aq:Uz base wr (·=w.heap.size+1):=by rintro b rfl;exact⟨BF E.out.1 (O1 _),Qt q,λcs fr e=>by rw[q]at e;simp at e⟩
    have I:=O.keep aq kT (λb e1 e2=>by have:=Z b e1;have e2:b=w.heap.size+1:=e2;omega);have H:=N.absorb kT (λb e=>by rw[e];exact O1 _);have c4:=Qq q 4;have am:=Qg q 4;simp at c4;have HX:=BX (A4 f d I H);clear f d I H kT aq g q O Z N;by_cases h8:s.tail.length<8
    ·have bO:(s.tail.length:Int)<8:=by omega
     clear S aJ A B z hm o L ha J hj h8 aP;go_upto_region 12 with fail;obtain⟨f,d,I,H⟩:=HX.out;clear c4 am;generalize wr.setCell ⟨w.heap.size+1,4,AI⟩ (.bool true)=ak at *;have a0:=Qq d 0;have a1:=Qq d 1;have a2:=Qq d 2;have a3:=Qq d 3;have a4:=Qq d 4;have a5:=Qq d 5;have f0:=Qg d 0;have f1:=Qg d 1;have f2:=Qg d 2;have f3:=Qg d 3;have f4:=Qg d 4;have f5:=Qg d 5;have b0:=Qq f 0;have b1:=Qq f 1;have b2:=Qq f 2;have b3:=Qq f 3;have X:=Qq f 4;have b5:=Qq f 5;simp at b0 b1 b2 b3 X b5 a0 a1 a2 a3 a4 a5;have G:=BX (A3 d I H);clear d f I H HX;go_wp2;obtain⟨C,z2,z3,z4⟩:=UY G.out.1 (BE _) G.out.2.1 rfl E.out.1 D.out.2.1 (by omega) G.out.2.2 rfl;refine FC (v:=.tuple #[.agg #[.int .u64 s.n,.bool true,.int .u64 s.first,.slice lo s.recs.length lc,.bool true,.int .i64 m],.int .i64 0]) ?_ rfl ⟨_,rfl,z2,z3,z4⟩;clear z2 z3 z4;have g0:=Qq C 0;have g1:=Qq C 1;have g2:=Qq C 2;have g3:=Qq C 3;have g4:=Qq C 4;have g5:=Qq C 5;clear C;generalize (((((ak.setCell ⟨w.heap.size,0,AI⟩ _).setCell ⟨w.heap.size,1,AI⟩ _).setCell ⟨w.heap.size,2,AI⟩ _).setCell ⟨w.heap.size,3,AI⟩ _).setCell ⟨w.heap.size,4,AI⟩ _).setCell ⟨w.heap.size,5,AI⟩ _=W at *;simp at g0 g1 g2 g3 g4 g5;simp[FD,Tryz.results175,go_sem,g0,g1,g2,g3,g4,g5]
    ·rcases B with B|⟨bS,bT⟩
     ·exact absurd B h8
     ·have bO:¬((s.tail.length:Int)<8):=by omega
      obtain⟨o1,c1,V,M⟩:=Ub po m pc a (a+4) (a:Int) ((a:Int)+4) rfl (by omega) (by omega) (by omega) A;have X:=M _ _ _ L;rw[Ol o 4 _ rfl]at X;have T:=Cl X (by rw[E9];omega);rw[show a+4-a=4 by omega]at V T;generalize takeN (s.tail.take 4)=n at *;have bg:¬((1048576:Int)<(n:Int)):=by omega
      have bi:(n:Int)<=1099511627776:=by omega
      have bj:(s.tail.length:Int)-8<(n:Int):=by omega
      have bk:(8:Int)<=(s.tail.length:Int):=by omega
      have bl:(s.tail.length:Int)<=1099511627776:=by omega
      clear S aJ A z hm o L ha J hj h8 aP bS bT M X;go_upto_region 18 with(go_at_call 206;refine T.mono ?_;rintro e w5 ⟨rfl,rfl⟩);obtain⟨f,d,I,H⟩:=HX.out;clear c4 am;generalize w5.setCell ⟨w.heap.size+1,4,AI⟩ (.bool true)=ak at *;have a0:=Qq d 0;have a1:=Qq d 1;have a2:=Qq d 2;have a3:=Qq d 3;have a4:=Qq d 4;have a5:=Qq d 5;have f0:=Qg d 0;have f1:=Qg d 1;have f2:=Qg d 2;have f3:=Qg d 3;have f4:=Qg d 4;have f5:=Qg d 5;have b0:=Qq f 0;have b1:=Qq f 1;have b2:=Qq f 2;have b3:=Qq f 3;have X:=Qq f 4;have b5:=Qq f 5;simp at b0 b1 b2 b3 X b5 a0 a1 a2 a3 a4 a5;have G:=BX (A3 d I H);clear d f I H HX;go_wp2;obtain⟨C,z2,z3,z4⟩:=UY G.out.1 (BE _) G.out.2.1 rfl E.out.1 D.out.2.1 (by omega) G.out.2.2 rfl;refine FC (v:=.tuple #[.agg #[.int .u64 s.n,.bool true,.int .u64 s.first,.slice lo s.recs.length lc,.bool true,.int .i64 m],.int .i64 0]) ?_ rfl ⟨_,rfl,z2,z3,z4⟩;clear z2 z3 z4;have g0:=Qq C 0;have g1:=Qq C 1;have g2:=Qq C 2;have g3:=Qq C 3;have g4:=Qq C 4;have g5:=Qq C 5;clear C;generalize (((((ak.setCell ⟨w.heap.size,0,AI⟩ _).setCell ⟨w.heap.size,1,AI⟩ _).setCell ⟨w.heap.size,2,AI⟩ _).setCell ⟨w.heap.size,3,AI⟩ _).setCell ⟨w.heap.size,4,AI⟩ _).setCell ⟨w.heap.size,5,AI⟩ _=W at *;simp at g0 g1 g2 g3 g4 g5;simp[FD,Tryz.results175,go_sem,g0,g1,g2,g3,g4,g5]
end Go.Proofs.YtfdmbomlkpkegaaGreat
