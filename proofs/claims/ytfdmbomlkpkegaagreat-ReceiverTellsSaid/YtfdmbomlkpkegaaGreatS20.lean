/- Lemmas. -/
import Derived.OwnWalk
import Derived.Test.YtfdmbomlkpkegaaGreatS19
import Derived.Test.YtfdmbomlkpkegaaGreatS9
set_option maxRecDepth 100000
set_option maxHeartbeats 8000000
set_option linter.all false
set_option autoImplicit true
set_option relaxedAutoImplicit true
open Bool renaming and_false->O9,and_true->O8,false_eq_true->FH,not_false->O7,not_true->O6,or_false->OB,or_true->OA
open Go renaming Value->AM,World->AC,wraps_u64->EC
open Go.IntKind renaming wrap_u64->F0
open Go.IntWalk renaming i64_in->EM
open Go.Lib renaming hid->BX
open Go.RowKit renaming intOf->C0
open Go.Value renaming ownBlock->DK,slice->DN
open Go.World renaming size_alloc->FE
open List renaming append_of_mem->O4,concat_eq_append->O3,eq_nil_or_concat->O2,flatMap_cons->EL,getElem?_append_left->DO,getElem?_append_right->DP,getElem?_eq_getElem->BY,getElem?_map->CK,getElem_mem->Ln,length_append->BO,length_map->D6,length_take->E9,map_append->O5,mem_map->CP,mem_of_getElem?->FB,take_add_one->E7,take_length->BZ
open Nat renaming le_trans->BF,zero_le->BW
open Option renaming none->AI,some->AF
namespace Go.Proofs.YtfdmbomlkpkegaaGreat
section
open Go Go.RowKit Go.Dr
def Xh (L:Gi):Nc:={n:=match L.segs.getLast? with|none=>1|some s=>s.n+1,first:=L.next,count:=0,size:=0,whole:=true,headed:=true}
def Uj (L:Gi):Nc:=if Jk L (Ke L)then Xh L else(L.segs.getLast?).getD (Xh L)
def appB (L:Gi)(r:Qs):Qs:=if Jk L (Ke L)then Xt L.next++recB r else recB r
def Gi.append (L:Gi)(r:Qs):Gi :=
 {size:=L.size,segs:=(if Jk L (Ke L)then L.segs else L.segs.dropLast)++[{Uj L with count:=(Uj L).count+1,size:=(Uj L).size+(appB L r).length}],recs:=L.recs++[r],next:=L.next+1}
def Uh (w:AC)(B:Nat)(s:Nc):Prop:=w.heap[B]?=AF (.cells (Yy s).toArray 265 (0,0))
theorem Iw(l:List Nc)(s s1:Nc):(((((((Yf (l++[s])).set (l.length*6) (.int .u64 s1.n)).set (l.length*6+1) (.int .u64 s1.first)).set (l.length*6+2) (.int .u64 s1.count)).set (l.length*6+3) (.int .i64 s1.size)).set (l.length*6+4) (.bool s1.whole)).set (l.length*6+5) (.bool s1.headed))=Yf (l++[s1]):=by
 rw[Nb,Nb];have g:=Cz l;have e:∀(f:Nat) (b:List AM) (u:AM),(Yf l++b).set (l.length*6+f) u=Yf l++b.set f u:=λf b u=>by
  rw[List.set_append_right _ _ (by omega),g];congr 2;omega
 have d:=e 0;rw[Nat.add_zero]at d;rw[d,e 1,e 2,e 3,e 4,e 5];rfl
theorem TL(h:Jn base w (.slice (AF ⟨rg,0,AI⟩) m cap) (l++[s]))(d:m=l.length+1)(k:Nat)(i:k=l.length) :
  Jn base ((((((w.setCell ⟨rg,k*6,AI⟩ (.int .u64 s1.n)).setCell ⟨rg,k*6+1,AI⟩ (.int .u64 s1.first)).setCell ⟨rg,k*6+2,AI⟩ (.int .u64 s1.count)).setCell ⟨rg,k*6+3,AI⟩ (.int .i64 s1.size)).setCell ⟨rg,k*6+4,AI⟩ (.bool s1.whole)).setCell ⟨rg,k*6+5,AI⟩ (.bool s1.headed)) (.slice (AF ⟨rg,0,AI⟩) m cap) (l++[s1]):=by
 subst i;have f:(l++[s]).length=m:=by rw[d];simp
 have g:(l++[s1]).length=m:=by rw[d];simp
 unfold Jn at h⊢;rw[g,<- Iw l s s1];rw[f]at h;exact(((((((h.stored _ _).1).stored _ _).1.stored _ _).1.stored _ _).1.stored _ _).1.stored _ _).1
theorem RV{w:AC}{rg:Nat}(a b c d e f:Nat)(u0 u1 u2 u3 u4 u5:AM) :
  Xy (·=rg) w ((((((w.setCell ⟨rg,a,AI⟩ u0).setCell ⟨rg,b,AI⟩ u1).setCell ⟨rg,c,AI⟩ u2).setCell ⟨rg,d,AI⟩ u3).setCell ⟨rg,e,AI⟩ u4).setCell ⟨rg,f,AI⟩ u5):=by
 have g:=λ(x:AC) (h:Xy (·=rg) w x) (i:Nat) (u:AM)=>Xy.setCell (F:=(·=rg)) h (p:=⟨rg,i,AI⟩) (.inl rfl) u;exact g _ (g _ (g _ (g _ (g _ (g _ (Xy.refl _ _) a u0) b u1) c u2) d u3) e u4) f u5
theorem KM[bn:Ib](h:Zd base w g p sv lv L)(hd:Qo base w p n s wv d)(M:base<=w.heap.size)(hT:ban.top<=w.heap.size)(hp:Qv base w pv r)(hr:r.length<=1048576)(cC:Ur d)(bz:(d.append (Uj L).n (appB L r)).2=0)(bx:L.next+1<=9223372036854775807)(bw:∀s∈L.segs,0<=s.n/\s.n+1<=9223372036854775807/\s.count+1<=9223372036854775807/\s.size<=1099511627776)(Z:L.segs.length<=1000000)(al:L.recs.length<=1000000) :
  Calls Tryz.prog 112 #[.pointer (AF ⟨g,0,AI⟩),pv] w λe w'=>e=.returned (.tuple #[.int .u64 L.next,.int .i64 0])/\∃n' s' cP Y cL,Zd base w' g p Y cL (L.append r)/\Qo base w' p n' s' cP (d.append (Uj L).n (appB L r)).1 /\
   Xy (λb=>foot p n s wv b\/Yg g sv lv b) w w'/\∀b,foot p n' s' cP b\/Yg g Y cL b->(foot p n s wv b\/Yg g sv lv b)\/w.heap.size<=b:=by
 have bY:=hp;obtain⟨po,pc,rfl⟩:=hp.form;have bK:=Pq bY hT (by omega);have cx:¬((1048576:Int)<(r.length:Int)):=by omega
 obtain⟨so,sc,rfl,cA,bN⟩:=h.segs.form;unfold maxLen at bN;obtain⟨fb,bU⟩:∃fb,Jk L (Ke L)=fb:=⟨_,rfl⟩;have hl:=λ(w':AC) (k:Xy No w w')=>Am (h.no k);have hf:=λ(w':AC) (k:Xy No w w')=>Ec (h.no k) (Ke L);rw[bU]at hf;have HF:=BX (A3 hl hf bU);have P:=BX (A7 h hd M hT bY cC bz);have HB:=BX (A5 bx bw Z al hr);have c4:=Qq h.blk 4;have c2:=Qq h.blk 2;simp at c2 c4;generalize bL:r.length=rl at *;have ap:=BX bL;clear bL;clear hl hf bU hp bY hr hd M hT cC bz bx bw Z al cA bN;go_enter Tryz.func112,Tryz.ntmps112;go_upto_block 1 with(first
  | (go_at_call 164;refine(HF.out.2.1 _ ((k1.alloc _).then k3)).mono ?_;rintro e w4 ⟨rfl,rfl⟩;have cs:=((k1.alloc (.cells #[.int .u64 1,.int .u64 L.next,.int .u64 0,.int .i64 0,.bool true,.bool true] 265)).then k3).cell c2 id)
  | (go_at_call 165;refine(HF.out.1 _ (k1.alloc _)).mono ?_;rintro e w3 ⟨rfl,k3⟩)
  | (go_at_call 163;refine bK.mono ?_;rintro e w1 ⟨v1,rfl,an,k1⟩;obtain⟨o1,c1,rfl⟩:=an.form;have cW:=k1.cell c4 id))
 have br:Xy No w w4:=(k1.alloc (.cells #[.int .u64 1,.int .u64 L.next,.int .u64 0,.int .i64 0,.bool true,.bool true] 265)).then k3;have f:=k3.heap (Qy w1 (.cells #[.int .u64 1,.int .u64 L.next,.int .u64 0,.int .i64 0,.bool true,.bool true] 265)) id;have bH:w.heap.size<=w1.heap.size:=k1.size;have bP:=an.keep ((Xy.refl No w1).alloc (.cells #[.int .u64 1,.int .u64 L.next,.int .u64 0,.int .i64 0,.bool true,.bool true] 265) |>.then k3) (λ_ _ e=>e);obtain⟨B,bj⟩:∃B,B=w1.heap.size:=⟨_,rfl⟩;rw[<- bj]at f bH⊢;have H4:=BX (A3 br bH bP);clear bK an c4 cW c2 k1 k3 bj br bP;go_cut [] (λwx=>Uh wx B (Uj L)/\Xy (·=B) w4 wx);case first =>
  have b0:=Qq f 0;have f0:=Qg f 0;simp at b0;have W:Uj L=if fb then Xh L else(L.segs.getLast?).getD (Xh L):=by unfold Uj;rw[HF.out.2.2]
  cases fb with
  | true =>
   have W:Uj L=Xh L:=W;by_cases aB:L.segs=[]
   ·have bX:L.segs.length=0:=by rw[aB];rfl
    have e2:Xh L={n:=1,first:=L.next,count:=0,size:=0,whole:=true,headed:=true}:=by unfold Xh;rw[aB];rfl
    have I:Uh w4 B (Uj L):=by unfold Uh;rw[W,e2];exact f
    have aC:=BX I;clear I aB W e2 f;generalize L.segs.length=m at *;subst bX;go_wp2;go_meet;exact⟨aC.out,Xy.refl _ _⟩
   ·obtain⟨k,J,hk,aU,hl⟩:=Un aB;have e2:Xh L={n:=J.n+1,first:=L.next,count:=0,size:=0,whole:=true,headed:=true}:=by unfold Xh;rw[hl]
    have hn:=(HB.out.2.1 J (FB aU));obtain⟨rg,rfl,s0,_⟩:=(P.out.1.no H4.out.1).segs.cell aU;have cw:IntKind.u64.wrap (J.n+1)=J.n+1:=EC _ (by omega) (by omega);have bo:=Qz (i:=0) (u:=.int .u64 (J.n+1)) f;have I:Uh (w4.setCell ⟨B,0,AI⟩ (.int .u64 (J.n+1))) B (Uj L):=by unfold Uh;rw[W,e2,bo];rfl
    have bt:Xy (·=B) w4 (w4.setCell ⟨B,0,AI⟩ (.int .u64 (J.n+1))):=Xy.setCell (F:=(·=B)) (Xy.refl _ _) (p:=⟨B,0,AI⟩) (.inl rfl) _;have aC:=BX (A2 I bt);have ag:=HB.out.qc;clear I bt bo hn aB W e2 f hl aU;generalize L.segs.length=m at *;have bb:IntKind.i64.wrap ((m:Int)-1)=(k:Int):=by rw[show(m:Int)-1=(k:Int)by omega];exact EM _ (by omega)
    have cf:(m:Int)-1=(k:Int):=by omega
    have bX:(0:Int)<(m:Int):=by omega
    have bu:(k:Int)<(m:Int):=by omega
    have bs:(k:Int)<=1099511627776:=by omega
    clear hk ag;go_wp2;go_meet;exact aC.out
  | false =>
   have aB:L.segs≠[]:=λe=>by
    have h1:=HF.out.2.2;unfold Jk at h1;rw[e]at h1;cases h1
   obtain⟨k,J,cd,aU,hl⟩:=Un aB;have e2:Uj L=J:=by rw[W,hl];rfl
   obtain⟨rg,rfl,s0,s1,s2,s3,s4,s5⟩:=(P.out.1.no H4.out.1).segs.cell aU;have ag:=HB.out.qc;have hx:=Qz (i:=5) (u:=.bool J.headed) (Qz (i:=4) (u:=.bool J.whole) (Qz (i:=3) (u:=.int .i64 J.size) (Qz (i:=2) (u:=.int .u64 J.count) (Qz (i:=1) (u:=.int .u64 J.first) (Qz (i:=0) (u:=.int .u64 J.n) f)))));have hk:=λ(x:AC) (hx:Xy (·=B) w4 x) (i:Nat) (u:AM)=>Xy.setCell (F:=(·=B)) hx (p:=⟨B,i,AI⟩) (.inl rfl) u;have bv:=hk _ (hk _ (hk _ (hk _ (hk _ (hk _ (Xy.refl _ _) 0 (.int .u64 J.n)) 1 (.int .u64 J.first)) 2 (.int .u64 J.count)) 3 (.int .i64 J.size)) 4 (.bool J.whole)) 5 (.bool J.headed);have b1:=Qq f 1;have f1:=Qg f 1;have b2:=Qq f 2;have f2:=Qg f 2;have b3:=Qq f 3;have f3:=Qg f 3;have b4:=Qq f 4;have f4:=Qg f 4;have b5:=Qq f 5;have f5:=Qg f 5;simp at b1 b2 b3 b4 b5;have aC:=BX (A3 hx bv e2);clear aB W hl aU hx hk bv e2 f;generalize L.segs.length=m at *;have bb:IntKind.i64.wrap ((m:Int)-1)=(k:Int):=by rw[show(m:Int)-1=(k:Int)by omega];exact EM _ (by omega)
   have cf:(m:Int)-1=(k:Int):=by omega
   have bX:(0:Int)<(m:Int):=by omega
   have bu:(k:Int)<(m:Int):=by omega
   have bs:(k:Int)<=1099511627776:=by omega
   clear cd ag;go_wp2;go_meet;refine⟨?_,aC.out.2.1⟩;unfold Uh;rw[aC.out.2.2,aC.out.1];rfl
 case rest =>
  obtain⟨aD,k5⟩:=hcut;generalize wc=w5 at *;have bV:Xy No w w5:=H4.out.1.absorb k5 (λb e=>by rw[e];exact H4.out.2.1);have bQ:=H4.out.2.2.keep k5 (λb W e2=>by
   subst e2;rcases H4.out.2.2.2 with⟨O,_⟩|⟨g',co,cp,O,_,hz,_⟩
   ·rw[O]at W;simp[DK]at W
   ·rw[O]at W;simp[DK]at W;subst W;rw[f]at hz;simp at hz)
  have bi:B<w5.heap.size:=Qt aD;have H5:=BX (A4 bV bQ aD bi);have c4:=Qq (P.out.1.no bV).blk 4;simp at c4;have aG:(recB r).length<=1099511627776:=by rw[Zl];have:=HB.out.re;have:=ap.out;omega
  have cq:=BX aG;clear bV bQ aD bi f k5 aG;generalize (recB r).length=xr at *;go_upto_if 59 with fail;go_cut [6] (λv6 wx=>Qv base wx v6 (appB L r)/\Xy No w5 wx);case first =>
   have W:appB L r=if fb then Xt L.next++recB r else recB r:=by unfold appB;rw[HF.out.2.2]
   have ce:=As (w:=w5) (BF P.out.qd H5.out.1.size) L.next;have af:=H5.out.2.1.bytes (base:=base) (λ_=>P.out.qd);have HE:=BX (A2 W af);clear W af;cases fb with
   | true =>
    go_wp2_with(first
     | (at_builtin;refine Zq rfl _ _ rfl w5.heap.size C (HE.out.2.no k6) rfl rfl (by rw[Zr,Zl];have:=HB.out.re;have:=ap.out;omega) k6.size ?_;intro v7 w7 cN k7)
     | (go_at_call 166;refine ce.mono ?_;rintro e w6 ⟨v6,rfl,C,k6⟩))
    go_meet;have e:appB L r=Xt L.next++recB r:=HE.out.1;rw[e];exact⟨cN.bytes (base:=base) (λ_=>BF P.out.qd H5.out.1.size),k6.trans k7 (λb M h=>by have:=(C.lt b h).1;omega)⟩
   | false =>
    go_wp2;go_meet;have e:appB L r=recB r:=HE.out.1;rw[e];exact⟨HE.out.2,Xy.refl _ _⟩
  case rest =>
   obtain⟨E,k6⟩:=hcut;generalize wc=w6 at *;obtain⟨a6,c6,rfl⟩:=E.form;have bW:(appB L r).length<=1099511627776:=by
    have h1:=HB.out.re;have h2:=ap.out;unfold appB
    split
    ·rw[BO,Zr,Zl];omega
    ·rw[Zl];omega
   have N:=H5.out.1.then k6;have aE:Uh w6 B (Uj L):=k6.heap H5.out.qc id;have aS:=P.out.2.1.no N;have c0:=Qq (P.out.1.no N).blk 0;simp at c0;have b0:=Qq aE 0;simp[Yy]at b0;have ae:=λ(w':AC) (k:Xy No w6 w')=>Ey (aS.no k) (BF P.out.qc (N.then k).size) P.out.qf (Uj L).n (E.no k) bW;rw[P.out.rg]at ae;have H6:=BX (A3 N aE E);have bf:=BX bW;clear N aE E aS bW k6 c4;generalize bE:(appB L r).length=xb at *;have cQ:=BX bE;clear bE;go_upto_region 15 with fail;have cb:¬foot p n s wv g:=P.out.1.apart P.out.2.1 (.inl rfl);have bT:¬foot p n s wv B:=λe=>by have:=P.out.2.1.foot_lt B e;have:=H4.out.2.1;omega
   refine Ql (λw'=>Xy (foot p n s wv) w6 w') [0,1,2,3,4,5,6] [7] [8] (by kernel_rfl) (by kernel_rfl) (λ_ _ _ _ _ h=>h) (Xy.refl _ _).drew ?_;have kd:Xy No w6 w6.drew:=(Xy.refl _ _).drew;iterate 7(refine Qk (v:=?_) rfl rfl rfl ?_ ?_;rotate_left;focus(
    intro w' O;have cr:=O.cell c0 cb;have bg:=O.cell b0 bT;go_simp
    try with_reducible rfl))
   refine Qj ?_;refine Qx rfl rfl (λK V=>?_);go_simp;refine(ae _ kd).mono ?_;rintro e w8⟨rfl,n8,s8,cm,aZ,k8,f8⟩;have aW:Xy (foot p n s wv) w6 w8:=kd.no.trans k8 (λ_ _ e=>e);refine V _ _ aW ?_;clear V K;refine Qh (Qu rfl (Qm ?_));have aS:=P.out.2.1.no H6.out.1;have ac:=(P.out.1.no H6.out.1).byD aS aW;have ai:=(P.out.2.2.2.2.1.no H6.out.1).keep aS.foot_ok aW;have o:=aW.heap H6.out.2.1 bT;have ah:Xy (foot p n s wv) w w8:=H6.out.1.no.trans aW (λ_ _ e=>e);have z:=(H6.out.1.then kd).size;have b2:=Qq o 2;have f2:=Qg o 2;have b3:=Qq o 3;have f3:=Qg o 3;simp[Yy]at b2 b3;obtain⟨x1,T⟩:∃x1,x1=(Uj L).count+1:=⟨_,rfl⟩;obtain⟨z1,U⟩:∃z1,z1=(Uj L).size+xb:=⟨_,rfl⟩;obtain⟨s1,Q⟩:∃s1:Nc,s1={Uj L with count:=x1,size:=z1}:=⟨_,rfl⟩;have cH:=Qz (i:=3) (u:=.int .i64 z1) (Qz (i:=2) (u:=.int .u64 x1) o);have j:Uh ((w8.setCell ⟨B,2,AI⟩ (.int .u64 x1)).setCell ⟨B,3,AI⟩ (.int .i64 z1)) B s1:=by unfold Uh;rw[cH,Q];rfl
   have aA:Xy (·=B) w8 ((w8.setCell ⟨B,2,AI⟩ (.int .u64 x1)).setCell ⟨B,3,AI⟩ (.int .i64 z1)) :=
    Xy.setCell (F:=(·=B)) (Xy.setCell (F:=(·=B)) (Xy.refl _ _) (p:=⟨B,2,AI⟩) (.inl rfl) _) (p:=⟨B,3,AI⟩) (.inl rfl) _
   have bq:(Uj L).count+1<=9223372036854775807/\(Uj L).size<=1099511627776:=by
    unfold Uj
    split
    ·exact⟨by show 0+1<=9223372036854775807;decide,by show 0<=1099511627776;decide⟩
    ·cases cc:L.segs.getLast? with
     | none=>exact⟨by show 0+1<=9223372036854775807;decide,by show 0<=1099511627776;decide⟩
     | some J=>have:=HB.out.2.1 J (List.mem_of_getLast? cc);exact⟨this.qc,this.2.2.2⟩
   have cF:IntKind.u64.wrap (((Uj L).count:Int)+1)=(x1:Int):=by rw[EC _ (by omega) (by omega)];omega
   have cl:((Uj L).size:Int)+(xb:Int)=(z1:Int):=by omega
   have ch:IntKind.i64.wrap (z1:Int)=(z1:Int):=by have:=bf.out;exact EM _ (by omega)
   have ck:(z1:Int)<=9223372036854775807:=by have:=bf.out;omega
   have H8:=BX (A13 j aA ac ai ah z aZ f8 Q bq o T U);clear j aA ac ai ah z aZ f8 Q bq T U cH aS aW k8 kd c0 b0 ae o;generalize bp:(Uj L).count=cn at *;generalize cI:(Uj L).size=zn at *;have be:=BX (A2 bp cI);clear bp cI;go_upto_if 88 with fail;generalize ((w8.setCell ⟨B,2,AI⟩ (.int .u64 x1)).setCell ⟨B,3,AI⟩ (.int .i64 z1))=w9 at *;clear b2 f2 b3 f3 cF cl ch ck;obtain⟨j,aA,ac,ai,ah,z,aZ,f8,Q,_,o,T,U⟩:=H8.out;have bk:base<=B:=BF P.out.qc H4.out.2.1;have au:=Bw o bk;have bl:∀b,Yg g (.slice so L.segs.length sc) lv b->b≠B:=λb M e=>by have h1:=P.out.1.lt b M;have h2:=H4.out.2.1;omega
   have D:=ac.keep au aA bl;have ab:=aZ.keep au aA (λb M e=>by
    rcases f8 b M with h|h
    ·exact bT (e ▸ h)
    ·have:=Qt H6.out.2.1;have:=(Xy.refl No w6).drew.size
     omega)
   have aj:=ai.keep au aA;have A:Xy (foot p n s wv) w w9:=ah.trans aA (λb M e=>by have:=H4.out.2.1;omega);have HW:=BX (A9 D ab aj A f8 Q T U z);clear ab aj A aA ac ai ah z aZ f8 Q T U o au bl bk H8;go_cut [] (λwx=>∃Y,Zd base wx g p Y lv {L with segs:=(if fb then L.segs else L.segs.dropLast)++[s1]}/\Xy (Yg g (.slice so L.segs.length sc) lv) w9 wx/\∀b,Y.ownBlock=AF b->(DN so L.segs.length sc).ownBlock=AF b\/w9.heap.size<=b);case first =>
    have d2:=Qq D.blk 2;simp at d2;have b0:=Qq j 0;have b1:=Qq j 1;have b2:=Qq j 2;have b3:=Qq j 3;have b4:=Qq j 4;have b5:=Qq j 5;simp[Yy]at b0 b1 b2 b3 b4 b5;have bA:=D.not_seg;have aV:¬(DN so L.segs.length sc).ownBlock=AF B:=λe=>by have:=P.out.1.lt B (.inr (.inl e));have:=H4.out.2.1;omega
    cases fb with
    | true =>
     have gb:=D.gb;have aP:=D;have Z:=HB.out.qc;have cG:base<=w9.heap.size:=BF P.out.qc HW.out.2.2.2.1.size;have HZ:=BX (A4 aP Z cG j);clear aP Z cG D j;go_upto_region 21 with fail;refine Ql (λw'=>Xy (λb=>(DN so L.segs.length sc).ownBlock=AF b) w9 w') [0,1,2,3,4,5] [6,7] [8,9,10] (by kernel_rfl) (by kernel_rfl) (λ_ _ _ _ _ h=>h) (Xy.refl _ _).drew ?_;iterate 6(refine Qk (v:=?_) rfl rfl rfl ?_ ?_;rotate_left;focus(
      intro w' O;have cY:=O.cell d2 bA;have bg:=O.cell b0 aV;have cR:=O.cell b1 aV;have cS:=O.cell b2 aV;have cT:=O.cell b3 aV;have cU:=O.cell b4 aV;have cV:=O.cell b5 aV;go_simp
      try with_reducible rfl))
     refine Qj ?_;have kd:Xy No w9 (w9.alloc (.cells #[.int .u64 s1.n,.int .u64 s1.first,.int .u64 s1.count,.int .i64 s1.size,.bool s1.whole,.bool s1.headed] 265)).drew:=((Xy.refl _ _).alloc _).drew;have bm:=Qy w9 (.cells #[.int .u64 s1.n,.int .u64 s1.first,.int .u64 s1.count,.int .i64 s1.size,.bool s1.whole,.bool s1.headed] 265);refine Qx rfl rfl (λK V=>?_);go_simp;refine V _ _ kd.no ?_;clear V K;have bS:=HZ.out.1.no kd;refine Qx rfl rfl (λK V=>?_);refine Mc (c:=s1) _ _ rfl bS.segs rfl (B:=w9.heap.size) bm rfl (by have:=HZ.out.2.1;omega) (BF HZ.out.qc kd.size) ?_;intro v6 aY aH k6 C;have kS:Xy (λb=>(DN so L.segs.length sc).ownBlock=AF b) w9 aY:=kd.no.trans k6 (λ_ _ e=>e);refine V _ _ kS ?_;clear V K;refine Qh (Qu rfl (Qu rfl (Qu rfl (Qm ?_))));obtain⟨E,aF⟩:=bS.pushedSeg k6 aH;obtain⟨a7,c7,rfl,_,_⟩:=aH.form;have cD:=kd.size;generalize (L.segs++[s1]).length=x6 at *;have f2:=Qg E 2;have e2:=Qq E 2;simp at e2;obtain⟨S,am,ak,k7⟩:=Ut E gb aH aF 2 (.slice a7 x6 c7) rfl;have I:Zd base (aY.setCell ⟨g,2,AI⟩ (.slice a7 x6 c7)) g p (.slice a7 x6 c7) lv {L with segs:=L.segs++[s1]}:=⟨S,am,ak,gb⟩;have hk:=(kS.mono (G:=Yg g (.slice so L.segs.length sc) lv) (λ_ _ e=>.inr (.inl e))).trans k7 (λ_ _ e=>.inl e);have ao:=BX (A4 I hk C cD);clear I hk C cD S am ak k7 E aH aF kS k6 bS bm kd d2 b0 b1 b2 b3 b4 b5;go_wp2;go_meet;exact⟨.slice a7 x6 c7,ao.out.1,ao.out.2.1,λb M=>by
      rcases ao.out.qc b M with h|h
      ·exact .inl h
      ·exact .inr (BF ao.out.2.2.2 h)⟩
    | false =>
     rcases O2 L.segs with e|⟨q,J,e⟩
     ·exfalso;have h1:=HF.out.2.2;unfold Jk at h1;rw[e]at h1;cases h1
     ·rw[O3]at e;have hm:L.segs.length=q.length+1:=by rw[e];simp
      have ax:L.segs.dropLast=q:=by rw[e];simp
      have cB:L.segs[q.length]?=AF J:=by rw[e];simp
      obtain⟨rg,rfl,s0,cO,s2,s3,s4,s5⟩:=D.segs.cell cB;have kd:Xy No w9 w9.drew:=(Xy.refl _ _).drew;obtain⟨_,cX,aI⟩:=Qa (D.no kd).segs rg rfl;have bM:Jn base w9.drew (.slice (AF ⟨rg,0,AI⟩) L.segs.length sc) (q++[J]):=by rw[<- e];exact(D.no kd).segs
      have aQ:=TL (s1:=s1) bM hm q.length rfl;have N:=RV (w:=w9.drew) (rg:=rg) (q.length*6) (q.length*6+1) (q.length*6+2) (q.length*6+3) (q.length*6+4) (q.length*6+5) (.int .u64 s1.n) (.int .u64 s1.first) (.int .u64 s1.count) (.int .i64 s1.size) (.bool s1.whole) (.bool s1.headed);have ag:=HB.out.qc;have az:g≠rg:=λe=>bA (by simp[DK,e]);have HZ:=BX (A6 aQ N D ax az kd);have t0:=kd.cell s0 id;have t1:=kd.cell cO id;have t2:=kd.cell s2 id;have t3:=kd.cell s3 id;have t4:=kd.cell s4 id;have t5:=kd.cell s5 id;have f0:=Qg aI (q.length*6);have f1:=Qg aI (q.length*6+1);have f2:=Qg aI (q.length*6+2);have f3:=Qg aI (q.length*6+3);have f4:=Qg aI (q.length*6+4);have f5:=Qg aI (q.length*6+5);clear aQ N D ax az s0 cO s2 s3 s4 s5 aI bM e cB j;generalize L.segs.length=m at *;generalize q.length=k at *;have bb:IntKind.i64.wrap ((m:Int)-1)=(k:Int):=by rw[show(m:Int)-1=(k:Int)by omega];exact EM _ (by omega)
      have bu:(k:Int)<(m:Int):=by omega
      have bs:(k:Int)<=1099511627776:=by omega
      clear hm ag;go_upto_region 22 with fail;refine Ql (λw'=>Xy No w9 w') [0,1,2,3,4,5,6,7,8,10] [9] [11,12] (by kernel_rfl) (by kernel_rfl) (λ_ _ _ _ _ h=>h) kd ?_;iterate 10(refine Qk (v:=?_) rfl rfl rfl ?_ ?_;rotate_left;focus(
       intro w' O;have cY:=O.cell d2 id;have bg:=O.cell b0 id;have cR:=O.cell b1 id;have cS:=O.cell b2 id;have cT:=O.cell b3 id;have cU:=O.cell b4 id;have cV:=O.cell b5 id;go_simp
       try with_reducible rfl))
      refine Qj ?_;clear d2 b0 b1 b2 b3 b4 b5;generalize w9.drew=wd at *;refine Qx rfl rfl (λK V=>?_);go_simp;refine V _ _ kd ?_;clear V K;refine Qh (Qu rfl (Qu rfl (Qm ?_)));go_wp2;go_meet;obtain⟨aQ,N,D,ax,az,cK⟩:=HZ.out;have aT:=D.no cK;have cg:∀b,lv.ownBlock=AF b->b≠rg:=λb W e2=>by
       obtain⟨us,_,_,bZ⟩:=aT.recs;obtain⟨_,cu,hz⟩:=Vf bZ b W;obtain⟨_,ct,cj⟩:=Qa aT.segs rg rfl;rw[e2,cj]at hz;simp at hz
      have cZ:Uz base wd (·=rg):=λb M=>aT.foot b (.inr (.inl (by rw[M];rfl)));refine⟨.slice (AF ⟨rg,0,AI⟩) m sc,⟨N.heap aT.blk az,?_,aT.recs.keep cZ N cg,aT.gb⟩,?_,λb M=>.inl M⟩
      ·show Jn base _ _ (L.segs.dropLast++[s1]);rw[ax];exact aQ
      ·exact cK.no.trans N (λb _ e=>.inr (.inl (by rw[e];rfl)))
   case rest =>
    obtain⟨Y,H,aJ,R⟩:=hcut;generalize wc=aL at *;obtain⟨ad,ab,aj,A,f8,Q,T,U,z⟩:=HW.out;have bJ:=aj.keep ad.foot aJ;have aM:=ab.byL ad aJ;have aN:=λ(w':AC) (k:Xy No aL w')=>Ju (bJ.no k) (by have:=ap.out;have:=HB.out.re;omega);obtain⟨lo,lc,rfl,_,_⟩:=H.recs.form;have d3:=Qq H.blk 3;simp at d3;have bA:¬(DN lo L.recs.length lc).ownBlock=AF g:=λe=>by
     obtain⟨us,_,_,bZ⟩:=H.recs;obtain⟨_,cX,hz⟩:=Vf bZ g e;rw[H.blk]at hz;simp at hz
    have X:=BF A.size aJ.size;obtain⟨x2,bD⟩:∃x2,x2=L.next+1:=⟨_,rfl⟩;have bE:=HB.out.1;have bb:IntKind.u64.wrap ((L.next:Int)+1)=(x2:Int):=by rw[EC _ (by omega) (by omega)];omega
    have cF:IntKind.u64.wrap ((x2:Int)-1)=(L.next:Int):=by rw[EC _ (by omega) (by omega)];omega
    have HV:=BX (A12 H aM aJ R A f8 Q T U z X bD);have HC:=BX aN;have aG:=HB.out.qd;clear H aM aJ R A f8 Q T U z X bD aN ad ab aj bJ D j h bE;generalize ay:L.recs.length=dm at *;have bR:=BX (A2 ay aG);clear ay aG;go_upto_region 23 with fail;refine Ql (λw'=>Xy (λb=>(DN lo dm lc).ownBlock=AF b) aL w') [0,1,2,3,4,5] [6,7,8] [9,10,11] (by kernel_rfl) (by kernel_rfl) (λ_ _ _ _ _ h=>h) (Xy.refl _ _).drew ?_;have bF:Xy No aL aL.drew:=(Xy.refl _ _).drew;iterate 6(refine Qk (v:=?_) rfl rfl rfl ?_ ?_;rotate_left;focus(
     intro w' O;have cv:=O.cell d3 bA;go_simp
     try with_reducible rfl))
    refine Qj ?_;refine Qx rfl rfl (λK V=>?_);go_simp;refine(HC.out _ bF).mono ?_;rintro e aY⟨cy,rfl,aK,cJ⟩;have bO:=aK.bytes (base:=base) (λ_=>BF P.out.qd (BF HV.out.qk bF.size));obtain⟨cM,bh,rfl⟩:=aK.form;have bd:=bF.then cJ;refine V _ _ bd.no ?_;clear V K;refine Qx rfl rfl (λK V=>?_);go_simp;have kA:Xy No aY (aY.alloc (.cells #[.slice cM r.length bh] 59)):=(Xy.refl _ _).alloc _;have aX:=bd.then kA;have af:=Qy aY (.cells #[.slice cM r.length bh] 59);have cE:=bO.no kA;refine V _ _ aX.no ?_;clear V K;have av:=HV.out.1.no aX;refine Qx rfl rfl (λK V=>?_);refine De _ _ rfl av.recs rfl af rfl cE (by show L.recs.length<=_;have:=bR.out;omega) (BF P.out.qc (BF HV.out.qk aX.size)) ?_;intro v6 bG aF bc C;have kS:Xy (λb=>(DN lo dm lc).ownBlock=AF b) aL bG:=aX.no.trans bc (λ_ _ e=>e);refine V _ _ kS ?_;clear V K;refine Qh (Qu rfl (Qu rfl (Qu rfl (Qm ?_))));obtain⟨E,aH⟩:=av.pushed bc aF;obtain⟨aq,ar,rfl,_,_⟩:=aF.form;have aR:=aX.size;have gb:=av.gb;have aG:L.recs.length=dm:=bR.out.1;generalize ci:(L.recs++[r]).length=x6 at *;have f3:=Qg E 3;have e3:=Qq E 3;simp at e3;obtain⟨S,am,ak,k7⟩:=Ut E gb aH aF 3 (.slice aq x6 ar) rfl;have bI:Xy (Yg g Y (.slice lo dm lc)) aL bG:=kS.mono (λ_ _ e=>.inr (.inr e));have aO:Xy (Yg g Y (.slice lo dm lc)) aL (bG.setCell ⟨g,3,AI⟩ (.slice aq x6 ar)):=bI.trans k7 (λ_ _ e=>.inl e);have HX:=BX (A6 C aR am ak aO S);clear kS bc k7 bI aO aH aF av af cE bO aK aX bd cJ kA C aR am ak bF d3 S aG ci;go_upto_region 24 with fail;have S:=HX.out.rf;generalize bG.setCell ⟨g,3,AI⟩ (.slice aq x6 ar)=cz at *;clear E f3 e3;have d4:=Qq S 4;have f4:=Qg S 4;simp at d4;obtain⟨aw,bC,bB,k8⟩:=Ut S gb HX.out.qc HX.out.qd 4 (.int .u64 x2) rfl;have H9:=BX (A4 aw bC bB k8);clear aw bC bB k8 S;go_wp2;go_ret2;obtain⟨H,aM,aJ,R,A,f8,Q,T,U,z,X,bD⟩:=HV.out;obtain⟨C,aR,_,_,aO,_⟩:=HX.out;obtain⟨aw,bC,bB,k8⟩:=H9.out;have hk:=aO.trans k8 (λ_ _ e=>.inl e);have e:L.append r={L with segs:=(if fb then L.segs else L.segs.dropLast)++[s1],recs:=L.recs++[r],next:=x2}:=by unfold Gi.append;rw[HF.out.2.2,Q,T,U,cQ.out,bD,be.out.1,be.out.2]
    have ay:=bR.out.1;subst ay;refine⟨rfl,n8,s8,cm,Y,.slice aq x6 ar,?_,aM.byL H hk,?_,?_⟩
    ·rw[e];exact⟨aw,bC,bB,gb⟩
    ·refine((A.mono (G:=λb=>foot p n s wv b\/Yg g (.slice so L.segs.length sc) (.slice lo L.recs.length lc) b) (λ_ _ e=>.inl e)).trans aJ (λ_ _ e=>.inr e)).trans hk (λb M h=>?_);rcases h with h|h|h
     ·exact .inr (.inl h)
     ·rcases R b h with h|h
      ·exact .inr (.inr (.inl h))
      ·have:=A.size;omega
     ·exact .inr (.inr (.inr h))
    ·intro b M;rcases M with M|M|M|M
     ·rcases f8 b M with h|h
      ·exact .inl (.inl h)
      ·exact .inr (BF z h)
     ·exact .inl (.inr (.inl M))
     ·rcases R b M with h|h
      ·exact .inl (.inr (.inr (.inl h)))
      ·exact .inr (BF A.size h)
     ·rcases C b M with h|h
      ·exact .inl (.inr (.inr (.inr h)))
      ·exact .inr (BF X (BF aR h))
end
section
open Go Go.RowKit
theorem SU(p:Qs):∀{a:Kk},(∀e∈a,e.1<k)->Xa a ⟨k,p,false⟩=a++[(k,p)]:=by
 intro a
 induction a with
 | nil=>intro _;simp[Xa]
 | cons e m i =>
  intro h;have d:=h e (by simp);have f:=i (λe g=>h e (by simp[g]));simp[Xa,d,f]
theorem UW(d p:Qs):∀{a:Kk},(∀e∈a,e.1<k)->Xa (a++[(k,d)]) ⟨k,p,false⟩=a++[(k,d++p)]:=by
 intro a
 induction a with
 | nil=>intro _;simp[Xa]
 | cons e m j =>
  intro h;have f:=h e (by simp);have g:=j (λe i=>h e (by simp[i]));simp[Xa,f,g]
def Gt (ss:List Jh):Kk:=ss.map (λs=>(s.n,s.bytes))
theorem Jy{α:Type}{l:List α}{x y:α}(h:(l++[x])[i]?=AF y):l[i]?=AF y\/(i=l.length/\y=x):=by
 by_cases hi:i<l.length
 ·rw[DO hi]at h;exact .inl h
 ·rw[DP (by omega)]at h;have d:i-l.length=0:=by have:=(List.getElem?_eq_some_iff.1 h).1;simp at this;omega
  rw[d]at h;simp at h;exact .inr ⟨by omega,h.symm⟩
theorem Kt{α:Type}{l:List α}{x:α}(h:i<=l.length):(l++[x]).take i=l.take i:=List.take_append_of_le_length h
theorem VS(p:Qs)(d:p.length<=1048576)(h:t<(recB p).length):U9 ((recB p).take t):=by
 have g:=Zl p;by_cases f:t<8
 ·left;rw[E9];omega
 ·right;have e:((recB p).take t).take 4=layB p.length 4:=by rw[List.take_take,Nat.min_eq_left (by omega)];have:=(Ww p [] d).qc;simpa using this
  rw[e,Uf,Nat.mod_eq_of_lt (by omega),E9];omega
theorem NN:U9 []:=.inl (by decide)
def Ku (size:Int)(ss:List Jh):Gi:={Kv size ss with next:=max (Zz 0 ss) 1}
theorem Uc(size:Int)(d:List Jh)(f:Jh):(Ku size (d++[f])).segs.getLast?=AF f.view:=by simp[Ku,Kv]
end
section
open Go Go.RowKit Go.Dr
theorem Uv(m:Kk)(k:Int)(l:Qs):msum (Na m k ((Uu m k).getD []++l))=msum m+l.length:=by
 induction m with
 | nil=>simp[Na,Uu,msum]
 | cons e m d =>
  rw[Zh];simp only[Na];by_cases h:e.1=k
  ·simp[h,msum];omega
  ·have:(e.1==k)=false:=by simpa using h
   simp only[this,msum,if_neg h,FH,if_false];rw[d];omega
end
section
open Go Go.RowKit
def Kx (g p n s:Nat)(wv d lv:AM):Nat->Prop:=λb=>foot p n s wv b\/Yg g d lv b
theorem Yz(L:Gi)(q:Qs):(appB L q).length<=q.length+20/\q.length+8<=(appB L q).length:=by
 unfold appB
 split
 ·rw[BO,Zr,Zl];omega
 ·rw[Zl];omega
end
section
open Go Go.RowKit Go.Dr
theorem R8[bn:Ib](h:Qv base w pv s.bytes)(g:s.Ok)(j:base<=w.heap.size)(i:ban.top<=w.heap.size)(d:s.recs.length<=1000000)(k:s.bytes.length<=1099511627776) :
  Calls Tryz.prog 175 #[.int .u64 s.n,pv] w (Sv base w s):=by
 cases f:s.headed with
 | false=>exact R5 h g f
 | true=>exact R6 h g f j i d k
def Uq (ps:List (Jh×AM)):List AM:=ps.flatMap λx=>Yo x.1 x.2
theorem Ox(ps:List (Jh×AM))(x:Jh×AM):Uq (ps++[x])=Uq ps++Yo x.1 x.2:=by simp[Uq]
theorem UX:∀{l:List (Jh×AM)} {i:Nat} {s:Jh×AM},l[i]?=AF s->∀f,f<6->(Uq l)[i*6+f]?=(Yo s.1 s.2)[f]?:=by
 intro l
 induction l with
 | nil=>intro i s h;simp at h
 | cons x l j =>
  intro i s h f g;cases i with
  | zero =>
   simp at h;subst h;simp only[Uq,EL];rw[DO (by simp[Yo];omega)];simp
  | succ i =>
   have d:=j (i:=i) (by simpa using h) f g;rw[<- d];simp only[Uq,EL];rw[DP (by simp[Yo];omega)];congr 1;simp[Yo];omega
theorem Oy(l:List (Jh×AM)):(Uq l).length=l.length*6:=by
 induction l with
 | nil=>rfl
 | cons x l d=>simp only[Uq,EL,BO,List.length_cons]at d⊢;rw[d];simp[Yo];omega
structure Cu [bn:Ib](base:Nat)(w:AC)(v:AM)(ps:List (Jh×AM)):Prop where
 recs:∀x∈ps,Zp base w x.2 x.1.recs
 row:w.ownsRow base 282 6 v ps.length (Uq ps)
def R7 [bn:Ib](base:Nat)(w:AC)(v:AM)(ss:List Jh):Prop:=∃ps,ps.map (·.1)=ss/\Cu base w v ps
section
variable [bn:Ib]{base:Nat}{w w':AC}{v:AM}{ps:List (Jh × AM)}
theorem Cu.nil:Cu base w (.slice AI 0 0) []:=⟨by simp,World.ownsRow_nil _ _ _ _⟩
theorem Cu.form(h:Cu base w v ps):∃ao cap,v=.slice ao ps.length cap/\ps.length<=cap/\cap<=maxLen:=Kj h.row
theorem Cu.no(h:Cu base w v ps)(k:Xy No w w'):Cu base w' v ps:=⟨λx d=>(h.recs x d).keep (Uz.no _ _) k (λ_ _ e=>e),Yu h.row k (λ_ _ e=>e)⟩
theorem R7.no(h:R7 base w v ss)(k:Xy No w w'):R7 base w' v ss:=by obtain⟨ps,d,f⟩:=h;exact⟨ps,d,f.no k⟩
theorem Cu.cell(h:Cu base w (.slice ao n cap) ps){i:Nat}(hi:ps[i]?=AF x) :
  ∃g,ao=AF ⟨g,0,AI⟩/\w.cell? ⟨g,i*6,AI⟩=AF (.int .u64 x.1.n)/\w.cell? ⟨g,i*6+1,AI⟩=AF (.bool x.1.headed)/\w.cell? ⟨g,i*6+2,AI⟩=AF (.int .u64 (if x.1.headed then(x.1.first:Int)else 0)) /\
   w.cell? ⟨g,i*6+3,AI⟩=AF x.2/\w.cell? ⟨g,i*6+4,AI⟩=AF (.bool (x.1.headed && !x.1.tail.isEmpty))/\w.cell? ⟨g,i*6+5,AI⟩=AF (.int .i64 x.1.bytes.length):=by
 obtain⟨m,d,k,_⟩:=h.form;simp only[Value.slice.injEq]at k;obtain⟨rfl,rfl,rfl⟩:=k;have q:=Oy ps;have c:=λ(f:Nat) (p:f<6) (y:AM) (z:(Yo x.1 x.2)[f]?=AF y)=>Gy h.row (j:=i*6+f) (x:=y) (by rw[UX hi f p];exact z) q;obtain⟨g,rfl,o⟩:=c 0 (by decide) _ rfl;refine⟨g,rfl,o,?_,?_,?_,?_,?_⟩
 ·obtain⟨_,e,h⟩:=c 1 (by decide) _ rfl;simp at e;subst e;exact h
 ·obtain⟨_,e,h⟩:=c 2 (by decide) _ rfl;simp at e;subst e;exact h
 ·obtain⟨_,e,h⟩:=c 3 (by decide) _ rfl;simp at e;subst e;exact h
 ·obtain⟨_,e,h⟩:=c 4 (by decide) _ rfl;simp at e;subst e;exact h
 ·obtain⟨_,e,h⟩:=c 5 (by decide) _ rfl;simp at e;subst e;exact h
end
theorem N0:(Tryz.prog.info? 282).map (λi=>(i.zero,i.size,i.bytes))=AF (AF (.agg #[.int .u64 0,.bool false,.int .u64 0,.slice AI 0 0,.bool false,.int .i64 0]),6,64):=by kernel_rfl
theorem YJ[bn:Ib]{base:Nat}{w:AC}{o:Oper}{a:Act}{K:Act->AC->Prop}{Q:Exit->Act->AC->Prop}(s x:Operand)(U:o.op=.call {callee:=.builtin .append,args:=#[s,x],argTypes:=#[236,236]}){v:AM}{ps:List (Jh×AM)}(h:Cu base w v ps)(V:a.eval s=v){B:Nat}{c:Jh}{u:AM}(J:Zp base w u c.recs)(P:w.heap[B]?=AF (.cells (Yo c u).toArray 282 (0,0)))(W:a.eval x=.slice (AF ⟨B,0,AI⟩) 1 1)(Y:ps.length<=1099511627776)(q:base<=w.heap.size)(R:∀F w',Cu base w' F (ps++[(c,u)])->Xy (λb=>v.ownBlock=AF b) w w'->(∀b,F.ownBlock=AF b->v.ownBlock=AF b\/w.heap.size<=b)->K (a.put o.dst F) w'):o.wp Tryz.prog a w K Q:=by
 obtain⟨X,z,C,D,E⟩:=info_parts N0;obtain⟨lo,L,rfl,_,_⟩:=J.form;refine wp_append_lies w s x 236 U base 282 X _ 6 64 Tryz.underlying236 z C D E rfl (by omega) v ps.length (Uq ps) V h.row
  ⟨B,0,AI⟩ 1 1 (Yo c (.slice lo c.recs.length L)) W rfl (World.news_of_block (cs:=(Yo c (.slice lo c.recs.length L)).toArray) (t:=282) (fr:=(0,0)) P) (by simp[Yo,Value.oneCell']) (by omega) (by unfold maxLen;omega) (by omega) q w.heap.size rfl ?_
 intro g cap w' j S f T;have k:=Jr S;have hF:Uz base w (λb=>v.ownBlock=AF b):=λb q=>by
  obtain⟨O,p,n⟩:=Qa h.row b q;exact⟨O,Qt n,λcs fr e=>by rw[n]at e;simp at e⟩
 have d:∀{u:AM} {rs:List Qs},Zp base w u rs->Zp base w' u rs:=λ{u rs} I=>I.keep hF k (λb M N=>by
  obtain⟨us,_,_,A⟩:=I;obtain⟨_,p,n⟩:=Qa A b M;obtain⟨_,G,m⟩:=Qa h.row b N
  rw[n]at m;simp at m)
 refine R _ _ ⟨λy i=>?_,?_⟩ k (λb H=>?_)
 ·rcases List.mem_append.1 i with i|i
  ·exact d (h.recs y i)
  ·simp at i;subst i;exact d J
 ·rw[Ox];simpa using j
 ·simp[DK]at H;subst H;rcases f with f|rfl
  ·exact .inl f
  ·exact .inr (Nat.le_refl _)
theorem Cy[bn:Ib](q:o.guard=AI)(s x:Operand)(A:o.op=.call {callee:=.builtin .append,args:=#[s,x],argTypes:=#[236,236]})(h:Cu base w v ps)(C:a.eval s=v)(D:Zp base w u c.recs)(m:w.heap[B]?=AF (.cells (Yo c u).toArray 282 (0,0)))(E:a.eval x=.slice (AF ⟨B,0,AI⟩) 1 1)(z:ps.length<=1099511627776)(p:base<=w.heap.size)(n:∀f w',Cu base w' f (ps++[(c,u)])->Xy (λb=>v.ownBlock=AF b) w w'->(∀b,f.ownBlock=AF b->v.ownBlock=AF b\/w.heap.size<=b)->wpList Tryz.prog d Q rest (a.put o.dst f) w'):wpList Tryz.prog d Q (o::rest) a w :=
 wpList_plain q λ_ g=>YJ s x A h C D m E z p λf w' i j k=>g _ _ (n f w' i j k)
def MR [bn:Ib](base:Nat)(w:AC)(ss:List Jh)(g:AM)(d f iv:AM)(wr:AC):Prop :=
 ∃(j:Nat) (ps:List (Jh×AM)),j<=ss.length/\iv=.int .i64 j/\f=.int .u64 (Zz 0 (ss.take j):Nat)/\ps.map (·.1)=ss.take j/\Cu base wr d ps/\(∀b,d.ownBlock=AF b->w.heap.size<=b)/\Xy No w wr/\Ze base wr g (Gt ss)
structure Hs (ss:List Jh):Prop where
 ok:∀s∈ss,s.Ok
 chain:∀(i:Nat) s,ss[i]?=AF s->s.headed=true->Zz 0 (ss.take i)=0\/s.first=Zz 0 (ss.take i)
 few:ss.length<=10000
 recs:(Qw ss).length<=1000000
 sum:msum (Gt ss)<=1099511627776
theorem Lh[bn:Ib](h:Zs base w q lv x)(I:base<=w.heap.size)(hT:ban.top<=w.heap.size)(hl:x.l.length<=1000)(hs:Ri x.l<=1099511627776)(hm:segs6 x.l=Gt ss)(ho:Hs ss) :
  Calls Tryz.prog 125 #[.pointer (AF ⟨q,0,AI⟩)] w λe w'=>∃v,e=.returned (.tuple #[v,.int .i64 0])/\R7 base w' v ss/\(∀b,v.ownBlock=AF b->w.heap.size<=b)/\Xy No w w':=by
 have aE:=ZK h.calls I hl hs;rw[hm]at aE;have d2:=Qq h.blk 2;simp at d2;have Q:=BX (A3 I hT ho);clear h I hT hl hs hm ho;go_enter Tryz.func125,Tryz.ntmps125;go_upto_block 0 with(go_at_call 80;refine aE.mono ?_;rintro e w1 ⟨sv,rfl,U,k1,_⟩;obtain⟨so,sc,rfl,aR,aS⟩:=U.form);have V:(Gt ss).length=ss.length:=by unfold Gt;simp
 rw[V]at U⊢;have aL:MR base w ss (.slice so ss.length sc) (.slice AI 0 0) (.int .u64 0) (.int .i64 0) w1:=⟨0,[],BW _,rfl,rfl,rfl,Cu.nil,by simp[DK],k1,U⟩;have aK:ss.length<=10000:=Q.out.2.2.few;have aY:(ss.length:Int)<=1099511627776:=by omega
 have aG:=BX aK;clear aE U k1 aR aS V aK;go_wp2_with fail;go_loopw [4,5,16] (λov nv iv wr=>MR base w ss (.slice so ss.length sc) ov nv iv wr) (λ_ _ iv _=>ss.length-(C0 iv).toNat);case atStart=>exact aL
 case round =>
  clear aL;obtain⟨j,ps,hj,rfl,rfl,L,hR,hO,hK,U⟩:=hrel;by_cases D:j<ss.length
  ·have S:ss[j]?=AF ss[j]:=BY D;have o:=Q.out.2.2.chain j _ S;have aC:=Q.out.2.2.ok _ (Ln D);have aF:ss.take (j+1)=ss.take j++[ss[j]]:=by rw[E7,S];rfl
   have aB:Zz 0 (ss.take (j+1))=if ss[j].headed then ss[j].first+ss[j].recs.length else Zz 0 (ss.take j):=by rw[aF,Ky];rfl
   have aA:(Gt ss)[j]?=AF (ss[j].n,ss[j].bytes):=by unfold Gt;rw[CK,S];rfl
   have aD:ss[j].recs.length<=1000000:=by have R:=Q.out.2.2.recs;have h2:ss[j].recs∈ss.map (·.recs):=CP.2 ⟨_,Ln D,rfl⟩;obtain⟨a,b,e⟩:=O4 h2;unfold Qw at R;rw[e]at R;simp at R;omega
   have E:=JT aA;have aT:=Q.out.2.2.sum;generalize ss[j]=s at *;obtain⟨g,rfl,_,aI⟩:=U.cells (by unfold Gt;simp;omega);obtain⟨u,hu,s0,s1⟩:=aI j _ aA;obtain⟨uo,uc,rfl⟩:=hu.form;dsimp only at s0 s1 hu;have C:=λ(w':AC) (k:Xy No wr w')=>R8 (hu.no k) aC (BF Q.out.1 (hK.then k).size) (BF Q.out.2.1 (hK.then k).size) aD (by dsimp only at E;omega);obtain⟨m,aM⟩:∃m,(s.headed && !s.tail.isEmpty)=m:=⟨_,rfl⟩;have aJ:ps.length=j:=by have:=congrArg List.length L;rw[D6,E9]at this;omega
   have aQ:(j:Int)<(ss.length:Int):=by omega
   obtain⟨nx,K⟩:∃nx,Zz 0 (ss.take j)=nx:=⟨_,rfl⟩;rw[K]at aB o⊢;have B:=BX (A6 L aF aB aJ D K);have f:=BX (A4 hR hO hK U);clear L aF aB aJ D K S aA E aT aI hj;cases hd:s.headed with
   | false =>
    clear aD;have hc:∀lv,(Yo s lv).toArray=#[.int .u64 s.n,.bool false,.int .u64 0,lv,.bool m,.int .i64 s.bytes.length]:=by intro lv;unfold Yo;rw[aM,hd];rfl
    have kA:Xy No wr (wr.alloc (.cells #[.int .u64 s.n,.slice uo s.bytes.length uc] 182)):=(Xy.refl _ _).alloc _;have i:=C _ kA;obtain⟨oo,oc,rfl,_,_⟩:=f.out.1.form;clear C;go_upto_region 7 with(go_at_call 175;refine i.mono ?_;rintro e P ⟨lv,he,A,Y,k2⟩;obtain⟨lo,p,rfl,_,_⟩:=A.form;rw[hc]at he;subst he);have T:Xy No wr ((P.alloc (.cells #[.int .u64 s.n,.bool false,.int .u64 0,.slice lo s.recs.length p,.bool m,.int .i64 s.bytes.length] 282)).alloc (.cells #[.int .u64 s.n,.bool false,.int .u64 0,.slice lo s.recs.length p,.bool m,.int .i64 s.bytes.length] 282)):=((kA.then k2).alloc _).alloc _;have H:=f.out.1.no T;have G:=A.keep (Uz.no _ _) (((Xy.refl No P).alloc (.cells #[.int .u64 s.n,.bool false,.int .u64 0,.slice lo s.recs.length p,.bool m,.int .i64 s.bytes.length] 282)).alloc (.cells #[.int .u64 s.n,.bool false,.int .u64 0,.slice lo s.recs.length p,.bool m,.int .i64 s.bytes.length] 282)) (λ_ _ e=>e);have F:((P.alloc (.cells #[.int .u64 s.n,.bool false,.int .u64 0,.slice lo s.recs.length p,.bool m,.int .i64 s.bytes.length] 282)).alloc (.cells #[.int .u64 s.n,.bool false,.int .u64 0,.slice lo s.recs.length p,.bool m,.int .i64 s.bytes.length] 282)).heap[P.heap.size+1]?=AF (.cells (Yo s (.slice lo s.recs.length p)).toArray 282 (0,0)):=by rw[hc];have hq:=Qy (P.alloc (.cells #[.int .u64 s.n,.bool false,.int .u64 0,.slice lo s.recs.length p,.bool m,.int .i64 s.bytes.length] 282)) (.cells #[.int .u64 s.n,.bool false,.int .u64 0,.slice lo s.recs.length p,.bool m,.int .i64 s.bytes.length] 282);simp only[FE]at hq;exact hq
    have z:ps.length<=1099511627776:=by have R:=B.out.qd;have h2:=B.out.qe;have h3:=aG.out;omega
    have J:=BF Q.out.1 (f.out.2.2.1.then T).size;have d:=BX (A6 T H G F z J);clear T H G F z J A Y i kA k2;go_wp2_with(at_builtin;refine Cy rfl _ _ rfl d.out.2.1 rfl d.out.qc d.out.qd rfl d.out.qe d.out.rf ?_;intro v9 w9 Z k9 o9);have M:=d.out.1.size;have N:=f.out.2.2.1.size;have X:Uz base _ (λb=>(DN oo ps.length oc).ownBlock=AF b):=λb I=>by
     obtain⟨R,W,E⟩:=Qa d.out.2.1.row b I;exact⟨R,Qt E,λcs fr e=>by rw[E]at e;simp at e⟩
    go_roundw;case rel =>
     refine⟨j+1,ps++[(s,_)],B.out.qe,by go_num,by rw[B.out.qc,hd];rfl,by rw[O5,B.out.1,B.out.2.1];rfl,Z,λb I=>?_,?_,?_⟩
     ·rcases o9 b I with h|h
      ·exact f.out.2.1 b h
      ·exact BF N (BF M h)
     ·exact(f.out.2.2.1.then d.out.1).absorb k9 (λb e=>f.out.2.1 b e)
     ·refine(f.out.2.2.2.no d.out.1).keep X k9 (λb e1 e2=>?_);obtain⟨_,W,E⟩:=(f.out.2.2.2.no d.out.1).kind b e1;obtain⟨_,aH,O⟩:=Qa d.out.2.1.row b e2;rw[E]at O;simp at O
    case measure =>have:=B.out.qe;simp[C0];omega
   | true =>
    have hc:∀lv,(Yo s lv).toArray=#[.int .u64 s.n,.bool true,.int .u64 s.first,lv,.bool m,.int .i64 s.bytes.length]:=by intro lv;unfold Yo;rw[aM,hd];rfl
    obtain⟨aO,aP,_,_⟩:=aC.head hd;have aU:decide ((s.first:Int)<1)=false:=decide_eq_false (by omega);have aV:decide ((4611686018427387904:Int)<=(s.first:Int))=false:=decide_eq_false (by omega);have aW:decide ((0:Int)<(s.first:Int))=true:=decide_eq_true (by omega);have aX:decide (0<s.first)=true:=decide_eq_true (by omega);have aZ:IntKind.u64.wrap (s.recs.length:Int)=(s.recs.length:Int):=by rw[F0];omega
    have ab:IntKind.u64.wrap ((s.first:Int)+(s.recs.length:Int))=((s.first+s.recs.length:Nat):Int):=by rw[F0];omega
    have aN:=o hd;clear aO aP o aD aC;rcases aN with rfl|rfl;all_goals
     have kA:Xy No wr (wr.alloc (.cells #[.int .u64 s.n,.slice uo s.bytes.length uc] 182)):=(Xy.refl _ _).alloc _;have i:=C _ kA;obtain⟨oo,oc,rfl,_,_⟩:=f.out.1.form;clear C;go_upto_region 7 with(go_at_call 175;refine i.mono ?_;rintro e P ⟨lv,he,A,Y,k2⟩;obtain⟨lo,p,rfl,_,_⟩:=A.form;rw[hc]at he;subst he);have T:Xy No wr ((P.alloc (.cells #[.int .u64 s.n,.bool true,.int .u64 s.first,.slice lo s.recs.length p,.bool m,.int .i64 s.bytes.length] 282)).alloc (.cells #[.int .u64 s.n,.bool true,.int .u64 s.first,.slice lo s.recs.length p,.bool m,.int .i64 s.bytes.length] 282)):=((kA.then k2).alloc _).alloc _;have H:=f.out.1.no T;have G:=A.keep (Uz.no _ _) (((Xy.refl No P).alloc (.cells #[.int .u64 s.n,.bool true,.int .u64 s.first,.slice lo s.recs.length p,.bool m,.int .i64 s.bytes.length] 282)).alloc (.cells #[.int .u64 s.n,.bool true,.int .u64 s.first,.slice lo s.recs.length p,.bool m,.int .i64 s.bytes.length] 282)) (λ_ _ e=>e);have F:((P.alloc (.cells #[.int .u64 s.n,.bool true,.int .u64 s.first,.slice lo s.recs.length p,.bool m,.int .i64 s.bytes.length] 282)).alloc (.cells #[.int .u64 s.n,.bool true,.int .u64 s.first,.slice lo s.recs.length p,.bool m,.int .i64 s.bytes.length] 282)).heap[P.heap.size+1]?=AF (.cells (Yo s (.slice lo s.recs.length p)).toArray 282 (0,0)):=by rw[hc];have hq:=Qy (P.alloc (.cells #[.int .u64 s.n,.bool true,.int .u64 s.first,.slice lo s.recs.length p,.bool m,.int .i64 s.bytes.length] 282)) (.cells #[.int .u64 s.n,.bool true,.int .u64 s.first,.slice lo s.recs.length p,.bool m,.int .i64 s.bytes.length] 282);simp only[FE]at hq;exact hq
     have z:ps.length<=1099511627776:=by have R:=B.out.qd;have h2:=B.out.qe;have h3:=aG.out;omega
     have J:=BF Q.out.1 (f.out.2.2.1.then T).size;have d:=BX (A6 T H G F z J);clear T H G F z J A Y i kA k2;go_wp2_with(at_builtin;refine Cy rfl _ _ rfl d.out.2.1 rfl d.out.qc d.out.qd rfl d.out.qe d.out.rf ?_;intro v9 w9 Z k9 o9);have M:=d.out.1.size;have N:=f.out.2.2.1.size;have X:Uz base _ (λb=>(DN oo ps.length oc).ownBlock=AF b):=λb I=>by
      obtain⟨R,W,E⟩:=Qa d.out.2.1.row b I;exact⟨R,Qt E,λcs fr e=>by rw[E]at e;simp at e⟩
     go_roundw;case rel =>
      refine⟨j+1,ps++[(s,_)],B.out.qe,by go_num,by rw[B.out.qc,hd];rfl,by rw[O5,B.out.1,B.out.2.1];rfl,Z,λb I=>?_,?_,?_⟩
      ·rcases o9 b I with h|h
       ·exact f.out.2.1 b h
       ·exact BF N (BF M h)
      ·exact(f.out.2.2.1.then d.out.1).absorb k9 (λb e=>f.out.2.1 b e)
      ·refine(f.out.2.2.2.no d.out.1).keep X k9 (λb e1 e2=>?_);obtain⟨_,W,E⟩:=(f.out.2.2.2.no d.out.1).kind b e1;obtain⟨_,aH,O⟩:=Qa d.out.2.1.row b e2;rw[E]at O;simp at O
     case measure =>have:=B.out.qe;simp[C0];omega
  ·obtain rfl:j=ss.length:=by omega
   rw[BZ]at *;have f:=BX (A4 L hR hO hK);have aQ:¬((ss.length:Int)<(ss.length:Int)):=by omega
   clear L hR hO hK D hj U;go_wp2;go_ret2;exact⟨_,rfl,⟨ps,f.out.1,f.out.2.1⟩,f.out.qc,f.out.2.2.2⟩
theorem UG[bn:Ib](h:R7 base w v ss)(N:Hs ss) :
  Calls Tryz.prog 150 #[v] w λe w'=>e=.returned (.int .u64 (max (Zz 0 ss) 1:Nat))/\Xy No w w':=by
 obtain⟨ps,p,J⟩:=h;obtain⟨ao,cap,rfl,_,_⟩:=J.form;have o:ps.length=ss.length:=by rw[<- p,D6]
 rw[o]at J⊢;have O:=N.few;have V:(ss.length:Int)<=1099511627776:=by omega
 have A:=BX (A4 p N o J);clear p N o J O;go_enter Tryz.func150,Tryz.ntmps150;go_wp2_with fail;go_loopw [3,8] (λY iv wr=>∃j:Nat,j<=ss.length/\iv=.int .i64 j/\Y=.int .u64 (max (Zz 0 (ss.take j)) 1:Nat)/\Xy No w wr) (λ_ iv _=>ss.length-(C0 iv).toNat);case atStart=>exact⟨0,BW _,rfl,rfl,Xy.refl _ _⟩
 case round =>
  obtain⟨j,P,rfl,rfl,I⟩:=hrel;by_cases d:j<ss.length
  ·have q:ss[j]?=AF ss[j]:=BY d;have f:∃u,ps[j]?=AF (ss[j],u):=by
    have z:j<ps.length:=by rw[A.out.qc];exact d
    have C:(ps.map (·.1))[j]?=AF ss[j]:=by rw[A.out.1];exact q
    rw[CK,BY z]at C;simp only[Option.map_some,Option.some.injEq]at C;refine⟨ps[j].2,?_⟩;rw[BY z];exact congrArg AF (Prod.ext C rfl)
   obtain⟨u,f⟩:=f;have H:ss.take (j+1)=ss.take j++[ss[j]]:=by rw[E7,q];rfl
   have F:Zz 0 (ss.take (j+1))=if ss[j].headed then ss[j].first+ss[j].recs.length else Zz 0 (ss.take j):=by rw[H,Ky];rfl
   have G:ss[j].recs.length<=1000000:=by have z:=A.out.2.1.recs;have C:ss[j].recs∈ss.map (·.recs):=CP.2 ⟨_,Ln d,rfl⟩;obtain⟨a,b,e⟩:=O4 C;unfold Qw at z;rw[e]at z;simp at z;omega
   have n:=A.out.2.1.ok _ (Ln d);generalize ss[j]=s at *;have k:=A.out.2.2.2.no I;have m:=k.recs _ (FB f);dsimp only at m;obtain⟨lo,lc,rfl,_,_⟩:=m.form;obtain⟨g,rfl,R,K,B,S,T,U⟩:=k.cell f;dsimp only at R K B S T U;have M:(j:Int)<(ss.length:Int):=by omega
   have i:=BX (A3 F d I);generalize (s.headed && !s.tail.isEmpty)=tb at *;generalize s.bytes.length=Z at *;clear F d I H f q k m P;cases D:s.headed with
   | false =>
    rw[D]at K B;simp only[FH,if_false]at B;clear n G;go_wp2;go_roundw;case rel=>exact⟨j+1,i.out.2.1,by go_num,by rw[i.out.1,D];rfl,i.out.2.2.alloc _⟩
    case measure=>have:=i.out.2.1;simp[C0];omega
   | true =>
    rw[D]at K B;simp only[if_true]at B;obtain⟨E,L,_,_⟩:=n.head D;have W:IntKind.u64.wrap (s.recs.length:Int)=(s.recs.length:Int):=by rw[F0];omega
    have X:IntKind.u64.wrap ((s.first:Int)+(s.recs.length:Int))=((s.first+s.recs.length:Nat):Int):=by rw[F0];omega
    have Q:=BX E;clear E L n G;go_wp2;go_roundw;case rel=>exact⟨j+1,i.out.2.1,by go_num,by rw[i.out.1,D];have:=Q.out;simp only[if_true];rw[Nat.max_eq_left (by omega)];go_num,i.out.2.2.alloc _⟩
    case measure=>have:=i.out.2.1;simp[C0];omega
  ·obtain rfl:j=ss.length:=by omega
   rw[BZ]at *;have M:¬((ss.length:Int)<(ss.length:Int)):=by omega
   clear d P;go_wp2;go_ret;exact⟨rfl,I⟩
theorem Cu.at{ps:List (Jh×AM)}{ss:List Jh}(f:ps.map (·.1)=ss){j:Nat}{s:Jh}(d:ss[j]?=AF s):∃u,ps[j]?=AF (s,u):=by
 subst f;rw[CK]at d;cases h:ps[j]? with
 | none=>rw[h]at d;cases d
 | some x=>rw[h]at d;exact⟨x.2,by simp at d;rw[<- d]⟩
def Hi (size:Int)(ss:List Jh):Bool:=Jk (Ku size ss) (Ke (Ku size ss))
theorem KZ(size:Int):Hi size []=true:=rfl
theorem Y7(size:Int)(d:List Jh)(s:Jh):Hi size (d++[s])=(!s.headed || ((s.headed && !s.tail.isEmpty) || decide (size<=(s.bytes.length:Int)))):=by unfold Hi Jk Ke;rw[Uc];show(!s.headed || (!(s.headed&&s.tail.isEmpty) || decide (size<=(s.bytes.length:Int))))=_;cases s.headed<;>simp
theorem XO[bn:Ib](h:R7 base w v ss)(f:ss.length<=10000)(size:Int)(I:∀s∈ss,0<=s.n/\s.n<=1000000) :
  Calls Tryz.prog 148 #[v,.int .i64 size] w λe w'=>e=.returned (.tuple #[.bool (Hi size ss),.int .u64 (Uj (Ku size ss)).n])/\Xy No w w':=by
 obtain⟨ps,i,B⟩:=h;obtain⟨ao,cap,rfl,_,_⟩:=B.form;have z:ps.length=ss.length:=by rw[<- i,D6]
 rw[z]at B⊢;rcases O2 ss with rfl|⟨d,s,rfl⟩
 ·rw[KZ,show(Uj (Ku size [])).n=1 from rfl];clear i B z I f;go_enter Tryz.func148,Tryz.ntmps148;go_wp2;go_ret2;exact⟨rfl,Xy.refl _ _⟩
 ·rw[O3]at *;obtain⟨u,q⟩:=Cu.at i (j:=d.length) (s:=s) (by simp);have p:=B.recs _ (FB q);dsimp only at p;obtain⟨lo,lc,rfl,_,_⟩:=p.form;clear p;obtain⟨g,rfl,S,T,U,V,G,W⟩:=B.cell q;dsimp only at S T U V G W;have E:=Y7 size d s;have D:(Uj (Ku size (d++[s]))).n=if Hi size (d++[s])then s.n+1 else s.n:=by unfold Uj Hi Xh;rw[Uc];cases Jk (Ku size (d++[s])) (Ke (Ku size (d++[s])))<;>rfl
  rw[D,E];have m:(d++[s]).length=d.length+1:=by simp
  have J:=I s (by simp);rw[m]at f⊢;generalize d.length=k at *;have X:IntKind.i64.wrap ((k:Int)+1-1)=(k:Int):=by rw[show((k:Int)+1-1)=(k:Int)by omega];exact EM _ (by omega)
  have Y:(k:Int)<=1099511627776:=by omega
  have Z:¬((k:Int)+1=0):=by omega
  have aA:IntKind.u64.wrap (s.n+1)=s.n+1:=by rw[F0];omega
  clear E D m I i B z q f J;generalize (if s.headed=true then(s.first:Int)else 0)=fi at *;generalize s.headed=L at *;generalize s.tail.isEmpty=M at *;generalize s.bytes.length=H at *;generalize s.n=sn at *;generalize s.recs.length=rl at *;have A:∀N O P Q R,(w.alloc (.cells #[.int .u64 sn,N,O,P,Q,R] 282)).cell? ⟨w.heap.size,0,AI⟩=AF (.int .u64 sn):=λN O P Q R=>by rw[Qq (Qy w _) 0];rfl
  by_cases K:size<=(H:Int)
  ·have o:decide (size<=(H:Int))=true:=decide_eq_true K;rw[o];cases L<;>cases M;all_goals
    simp only[O6,O7,O8,O9,OA,if_true]at G⊢;go_enter Tryz.func148,Tryz.ntmps148;go_wp2_with fail;refine Ql (λw'=>Xy No w w'/\w'.cell? ⟨w.heap.size,0,AI⟩=AF (.int .u64 sn)) [0,1,2,3,4] [] [] (by kernel_rfl) (by kernel_rfl) (λ_ _ _ _ _ h=>h) ⟨((Xy.refl _ _).alloc _).drew,(Xy.refl No _).drew.cell (A _ _ _ _ _) id⟩ ?_;iterate 5(refine Qk (v:=?_) rfl rfl rfl ?_ ?_;rotate_left;focus(
     intro w' F;have C:=F.2;go_simp
     try with_reducible rfl))
    refine Qj ?_;refine Qh (Qm ?_);go_wp2;go_ret2;exact⟨rfl,((Xy.refl _ _).alloc _).drew⟩
  ·have o:decide (size<=(H:Int))=false:=decide_eq_false K;rw[o];cases L<;>cases M;case true.true =>
    simp only[O6,O9,OB,FH,if_false]at G⊢;go_enter Tryz.func148,Tryz.ntmps148;go_wp2_with fail;refine Ql (λw'=>Xy No w w'/\w'.cell? ⟨w.heap.size,0,AI⟩=AF (.int .u64 sn)) [0,1,2,3] [] [] (by kernel_rfl) (by kernel_rfl) (λ_ _ _ _ _ h=>h) ⟨((Xy.refl _ _).alloc _).drew,(Xy.refl No _).drew.cell (A _ _ _ _ _) id⟩ ?_;iterate 4(refine Qk (v:=?_) rfl rfl rfl ?_ ?_;rotate_left;focus(
     intro w' F;have C:=F.2;go_simp
     try with_reducible rfl))
    refine Qj ?_;refine Qh (Qm ?_);go_wp2;go_ret2;exact⟨rfl,((Xy.refl _ _).alloc _).drew⟩
   all_goals
    simp only[O6,O7,O8,O9,OA,OB,if_true]at G⊢;go_enter Tryz.func148,Tryz.ntmps148;go_wp2_with fail;refine Ql (λw'=>Xy No w w'/\w'.cell? ⟨w.heap.size,0,AI⟩=AF (.int .u64 sn)) [0,1,2,3,4] [] [] (by kernel_rfl) (by kernel_rfl) (λ_ _ _ _ _ h=>h) ⟨((Xy.refl _ _).alloc _).drew,(Xy.refl No _).drew.cell (A _ _ _ _ _) id⟩ ?_;iterate 5(refine Qk (v:=?_) rfl rfl rfl ?_ ?_;rotate_left;focus(
     intro w' F;have C:=F.2;go_simp
     try with_reducible rfl))
    refine Qj ?_;refine Qh (Qm ?_);go_wp2;go_ret2;exact⟨rfl,((Xy.refl _ _).alloc _).drew⟩
end
end Go.Proofs.YtfdmbomlkpkegaaGreat
